/- Layer 11: what may be, of the program. -/
import Derived.Test.YtnnieekbklmgdaaDoorTyH
namespace Go.Proofs.YtnnieekbklmgdaaDoor
open Go Go.Eng
open Int renaming reduceEq → Zaa, reduceToNat → Zaw, reduceLE → Zax, reduceLT → Zay, reduceAdd → Zaz, reduceSub → Za0, reduceNeg → Za1, reducePow → Za3, reduceNegSucc → Za5
open UInt8 renaming reduceOfNat → Zab
open Go.Eng renaming subG → Zac, lit → Zad, isPar → Zae, numb → Zaf, Wf → Zag, resV → Zah, oneCell → Zai, isB → Zaj, asB → Zak
open List renaming mapM_cons → Zal, mapM_nil → Zam
open Go.Value renaming cells → Zan
open Nat renaming reduceAdd → Zao, reduceMul → Zap, reduceMod → Zaq, reduceDiv → Zar, reduceEqDiff → Zas, reduceBEq → Zat, reduceLeDiff → Zau, reduceSub → Zav, reducePow → Za2, reduceLT → Za4
set_option linter.unusedSimpArgs false
set_option linter.unusedVariables false
set_option maxRecDepth 20000

theorem risU_succ (l : List At) (i : Nat) : risU l (i + 1) = (risU l i && (i == 0 || !(Op.bytesLess (l.getD i nilA).1 (l.getD (i - 1) nilA).1 || (l.getD i nilA).1 == (l.getD (i - 1) nilA).1))) := by
  unfold risU; rw [upto_succ]
theorem risU_no {l : List At} {i n : Nat} (hi : i < n) (h : (i == 0 || !(Op.bytesLess (l.getD i nilA).1 (l.getD (i - 1) nilA).1 || (l.getD i nilA).1 == (l.getD (i - 1) nilA).1)) = false) : risU l n = false := upto_false hi h
theorem may_pure (F : Base) {ca : List Value} {a : Ty} (ha : RepT F ca a) : PureV Tryd.prog F 56 #[.agg ca.toArray] (.bool (may a)) := by
  induction ha with
  | mk k nm a1 c1 a2 c2 es ats g1 g2 hk hn hl1 hl2 hc1 hc2 h1 r1 h2 r2 i1 i2 =>
    refine pureV_of_svc mixed Tryd.func56 low56 (Nat.le_of_ble_eq_true rfl) (fun w0 => ?_)
    simp (disch := first | assumption | exact Ne.symm (by assumption) | omega) only [fu56, ↓ZD, ZU, ne_eq, Zaa, Zab, false_implies, Zac, Zad, Zae, Zaf, Zag, Zah, Zai, Zaj, Zak, Zal, Zam, Zan, Zao, Zap, Zaq, Zar, Zas, Zat, Zau, Zav, Zaw, Zax, Zay, Zaz, Za0, Za1, decide_true, decide_false, beq_self_eq_true, cond_true, cond_false, if_false, if_true, reduceIte, reduceCtorEq, not_true_eq_false, not_false_eq_true, true_and, and_true, forall_const, false_and, and_false, implies_true, Za2, Za3, Za4, Za5]
    refine NewB.of fun b1 hb1 hF1 => ?_
    rw [may]
    simp (disch := first | assumption | exact Ne.symm (by assumption) | omega) only [hF1, ↓ZD, ZU, ne_eq, Zaa, Zab, false_implies, Zac, Zad, Zae, Zaf, Zag, Zah, Zai, Zaj, Zak, Zal, Zam, Zan, Zao, Zap, Zaq, Zar, Zas, Zat, Zau, Zav, Zaw, Zax, Zay, Zaz, Za0, Za1, decide_true, decide_false, beq_self_eq_true, cond_true, cond_false, if_false, if_true, reduceIte, reduceCtorEq, not_true_eq_false, not_false_eq_true, true_and, and_true, forall_const, false_and, and_false, implies_true, Za2, Za3, Za4, Za5]
    have hcd : ((es.length : Int) != 1) = !(es.length == 1) := by
      rw [bne]; congr 1
      rw [Bool.eq_iff_iff, beq_iff_eq, beq_iff_eq]; omega
    rw [hcd]
    generalize (decide (k < 0) || decide (8 < k) || (k == 7 && !(es.length == 1))) = bad
    refine ⟨fun hb => ?_, fun hb => ?_⟩
    · rw [hb]; rfl
    rw [hb, Bool.not_false, Bool.true_and, risA_range]
    refine LoopL.inv (α := Nat) (fun i => i ≤ ats.length ∧ risU ats i = true ∧ mayA (ats.take i) = true)
      (fun i => [(1, some (.pointer (some ⟨b1, 0, none⟩))), (25, some (.slice a2 ats.length c2)), (26, some (.int .i64 ats.length)), (27, some (.int .i64 i))])
      (fun i => [(b1, .cells #[.int .i64 k, .string (bs nm), .slice a1 es.length c1, .slice a2 ats.length c2] 55 (0, 0))])
      (fun i => ats.length - i) 0 ⟨Nat.zero_le _, rfl, rfl⟩ (by (simp only [Le_nil, Le_cons]; simp (disch := first | assumption | exact Ne.symm (by assumption) | omega) only [↓ZD, ZU, ne_eq, Zaa, Zab, false_implies, Zac, Zad, Zae, Zaf, Zag, Zah, Zai, Zaj, Zak, Zal, Zam, Zan, Zao, Zap, Zaq, Zar, Zas, Zat, Zau, Zav, Zaw, Zax, Zay, Zaz, Za0, Za1, decide_true, decide_false, beq_self_eq_true, cond_true, cond_false, if_false, if_true, reduceIte, reduceCtorEq, not_true_eq_false, not_false_eq_true, true_and, and_true, forall_const, false_and, and_false, implies_true, Za2, Za3, Za4, Za5]; try trivial)) (by (simp only [HLe_nil, HLe_cons]; try (simp (disch := first | assumption | exact Ne.symm (by assumption) | omega) only [↓ZD, ZU, ne_eq, Zaa, Zab, false_implies, Zac, Zad, Zae, Zaf, Zag, Zah, Zai, Zaj, Zak, Zal, Zam, Zan, Zao, Zap, Zaq, Zar, Zas, Zat, Zau, Zav, Zaw, Zax, Zay, Zaz, Za0, Za1, decide_true, decide_false, beq_self_eq_true, cond_true, cond_false, if_false, if_true, reduceIte, reduceCtorEq, not_true_eq_false, not_false_eq_true, true_and, and_true, forall_const, false_and, and_false, implies_true, Za2, Za3, Za4, Za5]))) ?_
    rintro i ⟨hi, hru, hma⟩
    by_cases hlt : i < ats.length
    · have hd : decide ((i : Int) < (ats.length : Int)) = true := by simp; omega
      have gx := getA hlt
      have hc := i2 i _ gx
      have hms := mayA_snoc gx
      have hrs := risU_succ ats i
      rw [hma, Bool.true_and] at hms
      rw [hru, Bool.true_and] at hrs
      obtain ⟨k', nm', a1', n1', c1', a2', n2', c2', hform⟩ := (r2 i _ gx).form
      rw [hform] at hc
      have hcl := h2 i _ gx
      rw [hform] at hcl
      obtain ⟨ba, oa, rfl, hla⟩ := hcl.ldn
      simp (disch := first | assumption | exact Ne.symm (by assumption) | omega) only [hF1, hd, ↓ZD, ZU, ne_eq, Zaa, Zab, false_implies, Zac, Zad, Zae, Zaf, Zag, Zah, Zai, Zaj, Zak, Zal, Zam, Zan, Zao, Zap, Zaq, Zar, Zas, Zat, Zau, Zav, Zaw, Zax, Zay, Zaz, Za0, Za1, decide_true, decide_false, beq_self_eq_true, cond_true, cond_false, if_false, if_true, reduceIte, reduceCtorEq, not_true_eq_false, not_false_eq_true, true_and, and_true, forall_const, false_and, and_false, implies_true, Za2, Za3, Za4, Za5]
      refine conj.of (by omega) ?_
      simp (disch := first | assumption | exact Ne.symm (by assumption) | omega) only [hF1, hd, Int.toNat_natCast, ↓hla, ↓ZD, ZU, ne_eq, Zaa, Zab, false_implies, Zac, Zad, Zae, Zaf, Zag, Zah, Zai, Zaj, Zak, Zal, Zam, Zan, Zao, Zap, Zaq, Zar, Zas, Zat, Zau, Zav, Zaw, Zax, Zay, Zaz, Za0, Za1, decide_true, decide_false, beq_self_eq_true, cond_true, cond_false, if_false, if_true, reduceIte, reduceCtorEq, not_true_eq_false, not_false_eq_true, true_and, and_true, forall_const, false_and, and_false, implies_true, Za2, Za3, Za4, Za5]
      refine NewB.of fun b2 hb2 hF2 => ?_
      simp only [List.forall_mem_cons] at hb2
      simp (disch := first | assumption | exact Ne.symm (by assumption) | omega) only [hF1, hF2, ↓ZD, ZU, ne_eq, Zaa, Zab, false_implies, Zac, Zad, Zae, Zaf, Zag, Zah, Zai, Zaj, Zak, Zal, Zam, Zan, Zao, Zap, Zaq, Zar, Zas, Zat, Zau, Zav, Zaw, Zax, Zay, Zaz, Za0, Za1, decide_true, decide_false, beq_self_eq_true, cond_true, cond_false, if_false, if_true, reduceIte, reduceCtorEq, not_true_eq_false, not_false_eq_true, true_and, and_true, forall_const, false_and, and_false, implies_true, Za2, Za3, Za4, Za5]
      refine conj.of (fun h => by have := of_decide_eq_true h; omega) ?_
      have hj : ((i : Int) - 1).toNat < ats.length := by omega
      have hj2 : 0 < i → ((i : Int) - 1).toNat = i - 1 := fun h => by omega
      revert hj hj2
      generalize ((i : Int) - 1).toNat = j
      intro hj hj2
      obtain ⟨bj, oj, he, -, hlj⟩ := (h2 j _ (getA hj)).all
      injection he with he
      injection he with he1 he2
      subst he1 he2
      have hl0 := hlj 0 (by omega)
      simp only [Nat.add_zero, List.getD_cons_zero] at hl0
      simp (disch := first | assumption | exact Ne.symm (by assumption) | omega) only [hF1, hF2, ↓hl0, ↓ZD, ZU, ne_eq, Zaa, Zab, false_implies, Zac, Zad, Zae, Zaf, Zag, Zah, Zai, Zaj, Zak, Zal, Zam, Zan, Zao, Zap, Zaq, Zar, Zas, Zat, Zau, Zav, Zaw, Zax, Zay, Zaz, Za0, Za1, decide_true, decide_false, beq_self_eq_true, cond_true, cond_false, if_false, if_true, reduceIte, reduceCtorEq, not_true_eq_false, not_false_eq_true, true_and, and_true, forall_const, false_and, and_false, implies_true, Za2, Za3, Za4, Za5]
      refine CallQ.of _ (fun _ => hc.up) ?_
      simp (disch := first | assumption | exact Ne.symm (by assumption) | omega) only [hF1, hF2, ↓ZD, ZU, ne_eq, Zaa, Zab, false_implies, Zac, Zad, Zae, Zaf, Zag, Zah, Zai, Zaj, Zak, Zal, Zam, Zan, Zao, Zap, Zaq, Zar, Zas, Zat, Zau, Zav, Zaw, Zax, Zay, Zaz, Za0, Za1, decide_true, decide_false, beq_self_eq_true, cond_true, cond_false, if_false, if_true, reduceIte, reduceCtorEq, not_true_eq_false, not_false_eq_true, true_and, and_true, forall_const, false_and, and_false, implies_true, Za2, Za3, Za4, Za5]
      have hgd : (decide ((0 : Int) < (i : Int)) && (Op.bytesLess (ats.getD i nilA).1 (ats.getD j nilA).1 || (ats.getD i nilA).1 == (ats.getD j nilA).1)) = !(i == 0 || !(Op.bytesLess (ats.getD i nilA).1 (ats.getD (i - 1) nilA).1 || (ats.getD i nilA).1 == (ats.getD (i - 1) nilA).1)) := by
        rcases Nat.eq_zero_or_pos i with h0 | h0
        · subst h0; rfl
        · rw [hj2 h0, show decide ((0 : Int) < (i : Int)) = true by simp; omega, show (i == 0) = false by simp; omega]
          simp only [Bool.true_and, Bool.false_or, Bool.not_not]
      rw [hgd]
      refine ⟨fun hx => ?_, fun hx => ?_⟩
      · rw [Bool.or_eq_true, Bool.not_eq_true', Bool.not_eq_true'] at hx
        rcases hx with hx | hx
        · rw [risU_no hlt hx]; rfl
        · rw [mayA_no gx hx, Bool.and_false]; rfl
      · rw [Bool.or_eq_false_iff, Bool.not_eq_false', Bool.not_eq_false'] at hx
        refine invK.on (i + 1) (⟨by omega, by rw [hrs, hx.1], by rw [hms, hx.2]⟩) (by omega) (by (simp only [Le_nil, Le_cons]; simp (disch := first | assumption | exact Ne.symm (by assumption) | omega) only [hF1, hF2, hb2.1, ↓ZD, ZU, ne_eq, Zaa, Zab, false_implies, Zac, Zad, Zae, Zaf, Zag, Zah, Zai, Zaj, Zak, Zal, Zam, Zan, Zao, Zap, Zaq, Zar, Zas, Zat, Zau, Zav, Zaw, Zax, Zay, Zaz, Za0, Za1, decide_true, decide_false, beq_self_eq_true, cond_true, cond_false, if_false, if_true, reduceIte, reduceCtorEq, not_true_eq_false, not_false_eq_true, true_and, and_true, forall_const, false_and, and_false, implies_true, Za2, Za3, Za4, Za5]; try trivial)) (by (simp only [HLe_nil, HLe_cons]; try (simp (disch := first | assumption | exact Ne.symm (by assumption) | omega) only [hF1, hF2, hb2.1, ↓ZD, ZU, ne_eq, Zaa, Zab, false_implies, Zac, Zad, Zae, Zaf, Zag, Zah, Zai, Zaj, Zak, Zal, Zam, Zan, Zao, Zap, Zaq, Zar, Zas, Zat, Zau, Zav, Zaw, Zax, Zay, Zaz, Za0, Za1, decide_true, decide_false, beq_self_eq_true, cond_true, cond_false, if_false, if_true, reduceIte, reduceCtorEq, not_true_eq_false, not_false_eq_true, true_and, and_true, forall_const, false_and, and_false, implies_true, Za2, Za3, Za4, Za5])))
    · have hd : decide ((i : Int) < (ats.length : Int)) = false := by simp; omega
      obtain rfl : i = ats.length := by omega
      rw [List.take_length] at hma
      simp (disch := first | assumption | exact Ne.symm (by assumption) | omega) only [hF1, hd, ↓ZD, ZU, ne_eq, Zaa, Zab, false_implies, Zac, Zad, Zae, Zaf, Zag, Zah, Zai, Zaj, Zak, Zal, Zam, Zan, Zao, Zap, Zaq, Zar, Zas, Zat, Zau, Zav, Zaw, Zax, Zay, Zaz, Za0, Za1, decide_true, decide_false, beq_self_eq_true, cond_true, cond_false, if_false, if_true, reduceIte, reduceCtorEq, not_true_eq_false, not_false_eq_true, true_and, and_true, forall_const, false_and, and_false, implies_true, Za2, Za3, Za4, Za5]
      refine CallE.pure (cont35 F a1 c1 es g1 hl1 h1 r1 i1) ?_
      simp (disch := first | assumption | exact Ne.symm (by assumption) | omega) only [hF1, ↓ZD, ZU, ne_eq, Zaa, Zab, false_implies, Zac, Zad, Zae, Zaf, Zag, Zah, Zai, Zaj, Zak, Zal, Zam, Zan, Zao, Zap, Zaq, Zar, Zas, Zat, Zau, Zav, Zaw, Zax, Zay, Zaz, Za0, Za1, decide_true, decide_false, beq_self_eq_true, cond_true, cond_false, if_false, if_true, reduceIte, reduceCtorEq, not_true_eq_false, not_false_eq_true, true_and, and_true, forall_const, false_and, and_false, implies_true, Za2, Za3, Za4, Za5]
      rw [hru, hma, Bool.not_not]; rfl
theorem rmay_pure (F : Base) {ca : List Value} {a : Ty} (ha : RepT F ca a) : PureV Tryd.prog F 62 #[.agg ca.toArray] (.bool (may a)) := by
  induction ha with
  | mk k nm a1 c1 a2 c2 es ats g1 g2 hk hn hl1 hl2 hc1 hc2 h1 r1 h2 r2 i1 i2 =>
    refine pureV_of_svc mixed Tryd.func62 low62 (Nat.le_of_ble_eq_true rfl) (fun w0 => ?_)
    simp (disch := first | assumption | exact Ne.symm (by assumption) | omega) only [fu62, ↓ZD, ZU, ne_eq, Zaa, Zab, false_implies, Zac, Zad, Zae, Zaf, Zag, Zah, Zai, Zaj, Zak, Zal, Zam, Zan, Zao, Zap, Zaq, Zar, Zas, Zat, Zau, Zav, Zaw, Zax, Zay, Zaz, Za0, Za1, decide_true, decide_false, beq_self_eq_true, cond_true, cond_false, if_false, if_true, reduceIte, reduceCtorEq, not_true_eq_false, not_false_eq_true, true_and, and_true, forall_const, false_and, and_false, implies_true, Za2, Za3, Za4, Za5]
    refine NewB.of fun b1 hb1 hF1 => ?_
    rw [may]
    simp (disch := first | assumption | exact Ne.symm (by assumption) | omega) only [hF1, ↓ZD, ZU, ne_eq, Zaa, Zab, false_implies, Zac, Zad, Zae, Zaf, Zag, Zah, Zai, Zaj, Zak, Zal, Zam, Zan, Zao, Zap, Zaq, Zar, Zas, Zat, Zau, Zav, Zaw, Zax, Zay, Zaz, Za0, Za1, decide_true, decide_false, beq_self_eq_true, cond_true, cond_false, if_false, if_true, reduceIte, reduceCtorEq, not_true_eq_false, not_false_eq_true, true_and, and_true, forall_const, false_and, and_false, implies_true, Za2, Za3, Za4, Za5]
    have hcd : ((es.length : Int) != 1) = !(es.length == 1) := by
      rw [bne]; congr 1
      rw [Bool.eq_iff_iff, beq_iff_eq, beq_iff_eq]; omega
    rw [hcd]
    generalize (decide (k < 0) || decide (8 < k) || (k == 7 && !(es.length == 1))) = bad
    refine ⟨fun hb => ?_, fun hb => ?_⟩
    · rw [hb]; rfl
    rw [hb, Bool.not_false, Bool.true_and, risA_range]
    refine LoopL.inv (α := Nat) (fun i => i ≤ es.length ∧ mayL (es.take i) = true)
      (fun i => [(1, some (.pointer (some ⟨b1, 0, none⟩))), (3, some (.int .i64 i))])
      (fun i => [(b1, .cells #[.int .i64 k, .string (bs nm), .slice a1 es.length c1, .slice a2 ats.length c2] 55 (0, 0))])
      (fun i => es.length - i) 0 ⟨Nat.zero_le _, rfl⟩ (by (simp only [Le_nil, Le_cons]; simp (disch := first | assumption | exact Ne.symm (by assumption) | omega) only [↓ZD, ZU, ne_eq, Zaa, Zab, false_implies, Zac, Zad, Zae, Zaf, Zag, Zah, Zai, Zaj, Zak, Zal, Zam, Zan, Zao, Zap, Zaq, Zar, Zas, Zat, Zau, Zav, Zaw, Zax, Zay, Zaz, Za0, Za1, decide_true, decide_false, beq_self_eq_true, cond_true, cond_false, if_false, if_true, reduceIte, reduceCtorEq, not_true_eq_false, not_false_eq_true, true_and, and_true, forall_const, false_and, and_false, implies_true, Za2, Za3, Za4, Za5]; try trivial)) (by (simp only [HLe_nil, HLe_cons]; try (simp (disch := first | assumption | exact Ne.symm (by assumption) | omega) only [↓ZD, ZU, ne_eq, Zaa, Zab, false_implies, Zac, Zad, Zae, Zaf, Zag, Zah, Zai, Zaj, Zak, Zal, Zam, Zan, Zao, Zap, Zaq, Zar, Zas, Zat, Zau, Zav, Zaw, Zax, Zay, Zaz, Za0, Za1, decide_true, decide_false, beq_self_eq_true, cond_true, cond_false, if_false, if_true, reduceIte, reduceCtorEq, not_true_eq_false, not_false_eq_true, true_and, and_true, forall_const, false_and, and_false, implies_true, Za2, Za3, Za4, Za5]))) ?_
    rintro i ⟨hi, hml⟩
    by_cases hlt : i < es.length
    · have hd : decide ((i : Int) < (es.length : Int)) = true := by simp; omega
      have gx := getT hlt
      have hc := i1 i _ gx
      have hms := mayL_snoc gx
      rw [hml, Bool.true_and] at hms
      obtain ⟨ba, oa, rfl, hla⟩ := (h1 i _ gx).ldn
      simp (disch := first | assumption | exact Ne.symm (by assumption) | omega) only [hF1, hd, ↓ZD, ZU, ne_eq, Zaa, Zab, false_implies, Zac, Zad, Zae, Zaf, Zag, Zah, Zai, Zaj, Zak, Zal, Zam, Zan, Zao, Zap, Zaq, Zar, Zas, Zat, Zau, Zav, Zaw, Zax, Zay, Zaz, Za0, Za1, decide_true, decide_false, beq_self_eq_true, cond_true, cond_false, if_false, if_true, reduceIte, reduceCtorEq, not_true_eq_false, not_false_eq_true, true_and, and_true, forall_const, false_and, and_false, implies_true, Za2, Za3, Za4, Za5]
      refine conj.of (by omega) ?_
      simp (disch := first | assumption | exact Ne.symm (by assumption) | omega) only [hF1, hd, Int.toNat_natCast, ↓hla, ↓ZD, ZU, ne_eq, Zaa, Zab, false_implies, Zac, Zad, Zae, Zaf, Zag, Zah, Zai, Zaj, Zak, Zal, Zam, Zan, Zao, Zap, Zaq, Zar, Zas, Zat, Zau, Zav, Zaw, Zax, Zay, Zaz, Za0, Za1, decide_true, decide_false, beq_self_eq_true, cond_true, cond_false, if_false, if_true, reduceIte, reduceCtorEq, not_true_eq_false, not_false_eq_true, true_and, and_true, forall_const, false_and, and_false, implies_true, Za2, Za3, Za4, Za5]
      refine CallE.pure hc ?_
      simp (disch := first | assumption | exact Ne.symm (by assumption) | omega) only [hF1, ↓ZD, ZU, ne_eq, Zaa, Zab, false_implies, Zac, Zad, Zae, Zaf, Zag, Zah, Zai, Zaj, Zak, Zal, Zam, Zan, Zao, Zap, Zaq, Zar, Zas, Zat, Zau, Zav, Zaw, Zax, Zay, Zaz, Za0, Za1, decide_true, decide_false, beq_self_eq_true, cond_true, cond_false, if_false, if_true, reduceIte, reduceCtorEq, not_true_eq_false, not_false_eq_true, true_and, and_true, forall_const, false_and, and_false, implies_true, Za2, Za3, Za4, Za5]
      refine ⟨fun hx => ?_, fun hx => ?_⟩
      · have hx : may (es.getD i nilT) = false := by simpa using hx
        rw [mayL_no gx hx, Bool.and_false]
      · have hx : may (es.getD i nilT) = true := by simpa using hx
        refine invK.on (i + 1) (⟨by omega, by rw [hms, hx]⟩) (by omega) (by (simp only [Le_nil, Le_cons]; simp (disch := first | assumption | exact Ne.symm (by assumption) | omega) only [hF1, ↓ZD, ZU, ne_eq, Zaa, Zab, false_implies, Zac, Zad, Zae, Zaf, Zag, Zah, Zai, Zaj, Zak, Zal, Zam, Zan, Zao, Zap, Zaq, Zar, Zas, Zat, Zau, Zav, Zaw, Zax, Zay, Zaz, Za0, Za1, decide_true, decide_false, beq_self_eq_true, cond_true, cond_false, if_false, if_true, reduceIte, reduceCtorEq, not_true_eq_false, not_false_eq_true, true_and, and_true, forall_const, false_and, and_false, implies_true, Za2, Za3, Za4, Za5]; try trivial)) (by (simp only [HLe_nil, HLe_cons]; try (simp (disch := first | assumption | exact Ne.symm (by assumption) | omega) only [hF1, ↓ZD, ZU, ne_eq, Zaa, Zab, false_implies, Zac, Zad, Zae, Zaf, Zag, Zah, Zai, Zaj, Zak, Zal, Zam, Zan, Zao, Zap, Zaq, Zar, Zas, Zat, Zau, Zav, Zaw, Zax, Zay, Zaz, Za0, Za1, decide_true, decide_false, beq_self_eq_true, cond_true, cond_false, if_false, if_true, reduceIte, reduceCtorEq, not_true_eq_false, not_false_eq_true, true_and, and_true, forall_const, false_and, and_false, implies_true, Za2, Za3, Za4, Za5])))
    · have hd : decide ((i : Int) < (es.length : Int)) = false := by simp; omega
      obtain rfl : i = es.length := by omega
      rw [List.take_length] at hml
      rw [hml, Bool.and_true]
      simp (disch := first | assumption | exact Ne.symm (by assumption) | omega) only [hF1, hd, ↓ZD, ZU, ne_eq, Zaa, Zab, false_implies, Zac, Zad, Zae, Zaf, Zag, Zah, Zai, Zaj, Zak, Zal, Zam, Zan, Zao, Zap, Zaq, Zar, Zas, Zat, Zau, Zav, Zaw, Zax, Zay, Zaz, Za0, Za1, decide_true, decide_false, beq_self_eq_true, cond_true, cond_false, if_false, if_true, reduceIte, reduceCtorEq, not_true_eq_false, not_false_eq_true, true_and, and_true, forall_const, false_and, and_false, implies_true, Za2, Za3, Za4, Za5]
      refine LoopL.inv (α := Nat) (fun i => i ≤ ats.length ∧ risU ats i = true ∧ mayA (ats.take i) = true)
        (fun i => [(1, some (.pointer (some ⟨b1, 0, none⟩))), (5, some (.int .i64 i))])
        (fun i => [(b1, .cells #[.int .i64 k, .string (bs nm), .slice a1 es.length c1, .slice a2 ats.length c2] 55 (0, 0))])
        (fun i => ats.length - i) 0 ⟨Nat.zero_le _, rfl, rfl⟩ (by (simp only [Le_nil, Le_cons]; simp (disch := first | assumption | exact Ne.symm (by assumption) | omega) only [↓ZD, ZU, ne_eq, Zaa, Zab, false_implies, Zac, Zad, Zae, Zaf, Zag, Zah, Zai, Zaj, Zak, Zal, Zam, Zan, Zao, Zap, Zaq, Zar, Zas, Zat, Zau, Zav, Zaw, Zax, Zay, Zaz, Za0, Za1, decide_true, decide_false, beq_self_eq_true, cond_true, cond_false, if_false, if_true, reduceIte, reduceCtorEq, not_true_eq_false, not_false_eq_true, true_and, and_true, forall_const, false_and, and_false, implies_true, Za2, Za3, Za4, Za5]; try trivial)) (by (simp only [HLe_nil, HLe_cons]; try (simp (disch := first | assumption | exact Ne.symm (by assumption) | omega) only [↓ZD, ZU, ne_eq, Zaa, Zab, false_implies, Zac, Zad, Zae, Zaf, Zag, Zah, Zai, Zaj, Zak, Zal, Zam, Zan, Zao, Zap, Zaq, Zar, Zas, Zat, Zau, Zav, Zaw, Zax, Zay, Zaz, Za0, Za1, decide_true, decide_false, beq_self_eq_true, cond_true, cond_false, if_false, if_true, reduceIte, reduceCtorEq, not_true_eq_false, not_false_eq_true, true_and, and_true, forall_const, false_and, and_false, implies_true, Za2, Za3, Za4, Za5]))) ?_
      rintro i ⟨hi, hru, hma⟩
      by_cases hlt : i < ats.length
      · have hd : decide ((i : Int) < (ats.length : Int)) = true := by simp; omega
        have gx := getA hlt
        have hc := i2 i _ gx
        have hms := mayA_snoc gx
        have hrs := risU_succ ats i
        rw [hma, Bool.true_and] at hms
        rw [hru, Bool.true_and] at hrs
        have hlen := (r2 i _ gx).form
        obtain ⟨k', nm', a1', n1', c1', a2', n2', c2', hform⟩ := hlen
        rw [hform] at hc
        have hcl := h2 i _ gx
        rw [hform] at hcl
        obtain ⟨ba, oa, rfl, hla, hl1'⟩ := hcl.all
        have hla1 := hla 1 4 (by omega)
        have hl0 := hl1' 0 (by omega)
        simp only [Nat.add_zero, List.getD_cons_zero] at hl0
        simp (disch := first | assumption | exact Ne.symm (by assumption) | omega) only [hF1, hd, ↓ZD, ZU, ne_eq, Zaa, Zab, false_implies, Zac, Zad, Zae, Zaf, Zag, Zah, Zai, Zaj, Zak, Zal, Zam, Zan, Zao, Zap, Zaq, Zar, Zas, Zat, Zau, Zav, Zaw, Zax, Zay, Zaz, Za0, Za1, decide_true, decide_false, beq_self_eq_true, cond_true, cond_false, if_false, if_true, reduceIte, reduceCtorEq, not_true_eq_false, not_false_eq_true, true_and, and_true, forall_const, false_and, and_false, implies_true, Za2, Za3, Za4, Za5]
        refine conj.of (by omega) ?_
        simp (disch := first | assumption | exact Ne.symm (by assumption) | omega) only [hF1, hd, Int.toNat_natCast, ↓hla1, ↓ZD, ZU, ne_eq, Zaa, Zab, false_implies, Zac, Zad, Zae, Zaf, Zag, Zah, Zai, Zaj, Zak, Zal, Zam, Zan, Zao, Zap, Zaq, Zar, Zas, Zat, Zau, Zav, Zaw, Zax, Zay, Zaz, Za0, Za1, decide_true, decide_false, beq_self_eq_true, cond_true, cond_false, if_false, if_true, reduceIte, reduceCtorEq, not_true_eq_false, not_false_eq_true, true_and, and_true, forall_const, false_and, and_false, implies_true, Za2, Za3, Za4, Za5]
        refine CallE.pure hc ?_
        simp (disch := first | assumption | exact Ne.symm (by assumption) | omega) only [hF1, ↓ZD, ZU, ne_eq, Zaa, Zab, false_implies, Zac, Zad, Zae, Zaf, Zag, Zah, Zai, Zaj, Zak, Zal, Zam, Zan, Zao, Zap, Zaq, Zar, Zas, Zat, Zau, Zav, Zaw, Zax, Zay, Zaz, Za0, Za1, decide_true, decide_false, beq_self_eq_true, cond_true, cond_false, if_false, if_true, reduceIte, reduceCtorEq, not_true_eq_false, not_false_eq_true, true_and, and_true, forall_const, false_and, and_false, implies_true, Za2, Za3, Za4, Za5]
        refine conj.of (fun h => by have := of_decide_eq_true h.1; omega) ?_
        have hj : ((i : Int) - 1).toNat < ats.length := by omega
        have hj2 : 0 < i → ((i : Int) - 1).toNat = i - 1 := fun h => by omega
        revert hj hj2
        generalize ((i : Int) - 1).toNat = j
        intro hj hj2
        obtain ⟨bj, oj, he, -, hlj⟩ := (h2 j _ (getA hj)).all
        injection he with he
        injection he with he1 he2
        subst he1 he2
        have hl0j := hlj 0 (by omega)
        simp only [Nat.add_zero, List.getD_cons_zero] at hl0j
        simp (disch := first | assumption | exact Ne.symm (by assumption) | omega) only [hF1, ↓hl0, ↓hl0j, Int.toNat_natCast, ↓ZD, ZU, ne_eq, Zaa, Zab, false_implies, Zac, Zad, Zae, Zaf, Zag, Zah, Zai, Zaj, Zak, Zal, Zam, Zan, Zao, Zap, Zaq, Zar, Zas, Zat, Zau, Zav, Zaw, Zax, Zay, Zaz, Za0, Za1, decide_true, decide_false, beq_self_eq_true, cond_true, cond_false, if_false, if_true, reduceIte, reduceCtorEq, not_true_eq_false, not_false_eq_true, true_and, and_true, forall_const, false_and, and_false, implies_true, Za2, Za3, Za4, Za5]
        refine conj.of (fun h => by omega) ?_
        simp (disch := first | assumption | exact Ne.symm (by assumption) | omega) only [hF1, ↓hl0, ↓hl0j, Int.toNat_natCast, ↓ZD, ZU, ne_eq, Zaa, Zab, false_implies, Zac, Zad, Zae, Zaf, Zag, Zah, Zai, Zaj, Zak, Zal, Zam, Zan, Zao, Zap, Zaq, Zar, Zas, Zat, Zau, Zav, Zaw, Zax, Zay, Zaz, Za0, Za1, decide_true, decide_false, beq_self_eq_true, cond_true, cond_false, if_false, if_true, reduceIte, reduceCtorEq, not_true_eq_false, not_false_eq_true, true_and, and_true, forall_const, false_and, and_false, implies_true, Za2, Za3, Za4, Za5]
        refine CallQ.of _ (fun _ => (texts_pure F _ _ (hn.2 j _ (getA hj)) (hn.2 i _ gx)).up) ?_
        simp (disch := first | assumption | exact Ne.symm (by assumption) | omega) only [hF1, ↓ZD, ZU, ne_eq, Zaa, Zab, false_implies, Zac, Zad, Zae, Zaf, Zag, Zah, Zai, Zaj, Zak, Zal, Zam, Zan, Zao, Zap, Zaq, Zar, Zas, Zat, Zau, Zav, Zaw, Zax, Zay, Zaz, Za0, Za1, decide_true, decide_false, beq_self_eq_true, cond_true, cond_false, if_false, if_true, reduceIte, reduceCtorEq, not_true_eq_false, not_false_eq_true, true_and, and_true, forall_const, false_and, and_false, implies_true, Za2, Za3, Za4, Za5]
        rw [← bl_cmp]
        have hgd : (decide ((0 : Int) < (i : Int)) && (Op.bytesLess (ats.getD i nilA).1 (ats.getD j nilA).1 || (ats.getD i nilA).1 == (ats.getD j nilA).1)) = !(i == 0 || !(Op.bytesLess (ats.getD i nilA).1 (ats.getD (i - 1) nilA).1 || (ats.getD i nilA).1 == (ats.getD (i - 1) nilA).1)) := by
          rcases Nat.eq_zero_or_pos i with h0 | h0
          · subst h0; rfl
          · rw [hj2 h0, show decide ((0 : Int) < (i : Int)) = true by simp; omega, show (i == 0) = false by simp; omega]
            simp only [Bool.true_and, Bool.false_or, Bool.not_not]
        rw [hgd]
        refine ⟨fun hx => ?_, fun hx => ?_⟩
        · rw [Bool.or_eq_true, Bool.not_eq_true', Bool.not_eq_true'] at hx
          rcases hx with hx | hx
          · rw [mayA_no gx hx, Bool.and_false]
          · rw [risU_no hlt hx, Bool.false_and]
        · rw [Bool.or_eq_false_iff, Bool.not_eq_false', Bool.not_eq_false'] at hx
          refine invK.on (i + 1) (⟨by omega, by rw [hrs, hx.2], by rw [hms, hx.1]⟩) (by omega) (by (simp only [Le_nil, Le_cons]; simp (disch := first | assumption | exact Ne.symm (by assumption) | omega) only [hF1, ↓ZD, ZU, ne_eq, Zaa, Zab, false_implies, Zac, Zad, Zae, Zaf, Zag, Zah, Zai, Zaj, Zak, Zal, Zam, Zan, Zao, Zap, Zaq, Zar, Zas, Zat, Zau, Zav, Zaw, Zax, Zay, Zaz, Za0, Za1, decide_true, decide_false, beq_self_eq_true, cond_true, cond_false, if_false, if_true, reduceIte, reduceCtorEq, not_true_eq_false, not_false_eq_true, true_and, and_true, forall_const, false_and, and_false, implies_true, Za2, Za3, Za4, Za5]; try trivial)) (by (simp only [HLe_nil, HLe_cons]; try (simp (disch := first | assumption | exact Ne.symm (by assumption) | omega) only [hF1, ↓ZD, ZU, ne_eq, Zaa, Zab, false_implies, Zac, Zad, Zae, Zaf, Zag, Zah, Zai, Zaj, Zak, Zal, Zam, Zan, Zao, Zap, Zaq, Zar, Zas, Zat, Zau, Zav, Zaw, Zax, Zay, Zaz, Za0, Za1, decide_true, decide_false, beq_self_eq_true, cond_true, cond_false, if_false, if_true, reduceIte, reduceCtorEq, not_true_eq_false, not_false_eq_true, true_and, and_true, forall_const, false_and, and_false, implies_true, Za2, Za3, Za4, Za5])))
      · have hd : decide ((i : Int) < (ats.length : Int)) = false := by simp; omega
        obtain rfl : i = ats.length := by omega
        rw [List.take_length] at hma
        simp (disch := first | assumption | exact Ne.symm (by assumption) | omega) only [hF1, hd, ↓ZD, ZU, ne_eq, Zaa, Zab, false_implies, Zac, Zad, Zae, Zaf, Zag, Zah, Zai, Zaj, Zak, Zal, Zam, Zan, Zao, Zap, Zaq, Zar, Zas, Zat, Zau, Zav, Zaw, Zax, Zay, Zaz, Za0, Za1, decide_true, decide_false, beq_self_eq_true, cond_true, cond_false, if_false, if_true, reduceIte, reduceCtorEq, not_true_eq_false, not_false_eq_true, true_and, and_true, forall_const, false_and, and_false, implies_true, Za2, Za3, Za4, Za5]
        rw [hru, hma]; rfl
end Go.Proofs.YtnnieekbklmgdaaDoor
