/- Layer 11: what may be, told; how big a type is. -/
import Derived.Test.YtdljgcicncegkaaI
import Derived.Test.YtdljgcicncegkaaP
namespace Go.Proofs.Ytdljgcicncegkaa
open Go Go.Eng
open Int renaming reduceEq → Zaa, cast_ofNat_Int → Zac, reduceToNat → Zbu, toNat_zero → Zbv, toNat_one → Zbw, reduceLE → Zbx, reduceLT → Zby, reduceAdd → Zbz, reduceSub → Zb0, reduceNeg → Zb1, zero_add → Zb2, reducePow → Zcg, reduceNegSucc → Zci
open UInt8 renaming reduceOfNat → Zab
open List renaming toList_toArray → Zad, length_append → Zag, cons_append → Zav, nil_append → Zaw, length_cons → Zax, length_nil → Zay, drop_zero → Zaz, drop_succ_cons → Za0, take_succ_cons → Za1, take_zero → Za2, drop_nil → Za3, take_nil → Za4, append_nil → Za5, all_cons → Za6, all_nil → Za7, isEmpty_cons → Za8, size_toArray → Za9, getElem?_toArray → Zba, getElem?_cons_zero → Zbb, getElem?_cons_succ → Zbc, getD_cons_zero → Zbd, getD_cons_succ → Zbe, mapM_cons → Zbf, mapM_nil → Zbg
open Option renaming getD_some → Zae, getD_none → Zaf, map_some → Zar, map_none → Zas, bind_some → Zat, bind_none → Zau
open Nat renaming le_add_right → Zah, reduceAdd → Zbi, reduceMul → Zbj, reduceMod → Zbk, reduceDiv → Zbl, reduceEqDiff → Zbm, reduceBEq → Zbn, reduceLeDiff → Zbo, reduceSub → Zbp, zero_add → Zbq, add_zero → Zbr, le_refl → Zbs, zero_le → Zbt, reducePow → Zcf, reduceLT → Zch
open Go.Eng renaming subG → Zai, lit → Zaj, isPar → Zak, numb → Zal, Wf → Zam, resV → Zan, oneCell → Zao, isB → Zap, asB → Zaq
open Go.Value renaming cells → Zbh
open Bool renaming and_true → Zb3, true_and → Zb4, and_self → Zb5, not_true → Zb6, not_false → Zb7, and_false → Zb8, or_false → Zb9, or_true → Zca, true_or → Zcb, false_or → Zcc, false_and → Zcd, false_eq_true → Zce
set_option linter.unusedSimpArgs false
set_option linter.unusedVariables false
set_option maxRecDepth 20000

def chk (t : Ty) : Int := if 50 < (depth t : Int) then 11 else if may t then 0 else 1
theorem check_pure (F : Base) {ca : List Value} {a : Ty} (ha : RepT F ca a) (hd : depth a ≤ 1000000) : PureV Try.prog F 13 #[.agg ca.toArray] (.int .i64 (chk a)) := by
  have h1 := depth_pure F ha hd
  have h2 := may_pure F ha
  obtain ⟨_, _, _, _, _, _, _, _, rfl⟩ := ha.form
  refine pureV_of_svc mixed Try.func13 low13 (Nat.le_of_ble_eq_true rfl) (fun w0 => ?_)
  simp (disch := first | assumption | exact Ne.symm (by assumption) | omega) only [fu13, ↓ZD, ZU, ne_eq, Zaa, Zab, false_implies, Zac, Zad, Zae, Zaf, Zag, Zah, Zai, Zaj, Zak, Zal, Zam, Zan, Zao, Zap, Zaq, Zar, Zas, Zat, Zau, Zav, Zaw, Zax, Zay, Zaz, Za0, Za1, Za2, Za3, Za4, Za5, Za6, Za7, Za8, Za9, Zba, Zbb, Zbc, Zbd, Zbe, Zbf, Zbg, Zbh, Zbi, Zbj, Zbk, Zbl, Zbm, Zbn, Zbo, Zbp, Zbq, Zbr, Zbs, Zbt, Zbu, Zbv, Zbw, Zbx, Zby, Zbz, Zb0, Zb1, Zb2, decide_true, decide_false, Zb3, Zb4, Zb5, Zb6, Zb7, Zb8, Zb9, Zca, Zcb, Zcc, Zcd, beq_self_eq_true, cond_true, cond_false, if_false, if_true, reduceIte, reduceCtorEq, not_true_eq_false, not_false_eq_true, true_and, and_true, forall_const, false_and, and_false, implies_true, Zce, Zcf, Zcg, Zch, Zci]
  refine NewB.of fun b1 hb1 hF1 => ?_
  simp (disch := first | assumption | exact Ne.symm (by assumption) | omega) only [hF1, ↓ZD, ZU, ne_eq, Zaa, Zab, false_implies, Zac, Zad, Zae, Zaf, Zag, Zah, Zai, Zaj, Zak, Zal, Zam, Zan, Zao, Zap, Zaq, Zar, Zas, Zat, Zau, Zav, Zaw, Zax, Zay, Zaz, Za0, Za1, Za2, Za3, Za4, Za5, Za6, Za7, Za8, Za9, Zba, Zbb, Zbc, Zbd, Zbe, Zbf, Zbg, Zbh, Zbi, Zbj, Zbk, Zbl, Zbm, Zbn, Zbo, Zbp, Zbq, Zbr, Zbs, Zbt, Zbu, Zbv, Zbw, Zbx, Zby, Zbz, Zb0, Zb1, Zb2, decide_true, decide_false, Zb3, Zb4, Zb5, Zb6, Zb7, Zb8, Zb9, Zca, Zcb, Zcc, Zcd, beq_self_eq_true, cond_true, cond_false, if_false, if_true, reduceIte, reduceCtorEq, not_true_eq_false, not_false_eq_true, true_and, and_true, forall_const, false_and, and_false, implies_true, Zce, Zcf, Zcg, Zch, Zci]
  refine CallE.pure h1 ?_
  unfold chk
  simp (disch := first | assumption | exact Ne.symm (by assumption) | omega) only [hF1, ↓ZD, ZU, ne_eq, Zaa, Zab, false_implies, Zac, Zad, Zae, Zaf, Zag, Zah, Zai, Zaj, Zak, Zal, Zam, Zan, Zao, Zap, Zaq, Zar, Zas, Zat, Zau, Zav, Zaw, Zax, Zay, Zaz, Za0, Za1, Za2, Za3, Za4, Za5, Za6, Za7, Za8, Za9, Zba, Zbb, Zbc, Zbd, Zbe, Zbf, Zbg, Zbh, Zbi, Zbj, Zbk, Zbl, Zbm, Zbn, Zbo, Zbp, Zbq, Zbr, Zbs, Zbt, Zbu, Zbv, Zbw, Zbx, Zby, Zbz, Zb0, Zb1, Zb2, decide_true, decide_false, Zb3, Zb4, Zb5, Zb6, Zb7, Zb8, Zb9, Zca, Zcb, Zcc, Zcd, beq_self_eq_true, cond_true, cond_false, if_false, if_true, reduceIte, reduceCtorEq, not_true_eq_false, not_false_eq_true, true_and, and_true, forall_const, false_and, and_false, implies_true, Zce, Zcf, Zcg, Zch, Zci]
  refine ⟨fun h => ?_, fun h => ?_⟩
  · rw [if_pos (of_decide_eq_true h)]
  · rw [if_neg (of_decide_eq_false h)]
    refine CallE.pure h2 ?_
    simp (disch := first | assumption | exact Ne.symm (by assumption) | omega) only [hF1, ↓ZD, ZU, ne_eq, Zaa, Zab, false_implies, Zac, Zad, Zae, Zaf, Zag, Zah, Zai, Zaj, Zak, Zal, Zam, Zan, Zao, Zap, Zaq, Zar, Zas, Zat, Zau, Zav, Zaw, Zax, Zay, Zaz, Za0, Za1, Za2, Za3, Za4, Za5, Za6, Za7, Za8, Za9, Zba, Zbb, Zbc, Zbd, Zbe, Zbf, Zbg, Zbh, Zbi, Zbj, Zbk, Zbl, Zbm, Zbn, Zbo, Zbp, Zbq, Zbr, Zbs, Zbt, Zbu, Zbv, Zbw, Zbx, Zby, Zbz, Zb0, Zb1, Zb2, decide_true, decide_false, Zb3, Zb4, Zb5, Zb6, Zb7, Zb8, Zb9, Zca, Zcb, Zcc, Zcd, beq_self_eq_true, cond_true, cond_false, if_false, if_true, reduceIte, reduceCtorEq, not_true_eq_false, not_false_eq_true, true_and, and_true, forall_const, false_and, and_false, implies_true, Zce, Zcf, Zcg, Zch, Zci]
    cases may a <;> simp
theorem rcheck_pure (F : Base) {ca : List Value} {a : Ty} (ha : RepT F ca a) (hd : depth a ≤ 1000000) : PureV Try.prog F 14 #[.agg ca.toArray] (.int .i64 (chk a)) := by
  have h1 := rdepth_pure F ha hd
  have h2 := rmay_pure F ha
  obtain ⟨_, _, _, _, _, _, _, _, rfl⟩ := ha.form
  refine pureV_of_svc mixed Try.func14 low14 (Nat.le_of_ble_eq_true rfl) (fun w0 => ?_)
  simp (disch := first | assumption | exact Ne.symm (by assumption) | omega) only [fu14, ↓ZD, ZU, ne_eq, Zaa, Zab, false_implies, Zac, Zad, Zae, Zaf, Zag, Zah, Zai, Zaj, Zak, Zal, Zam, Zan, Zao, Zap, Zaq, Zar, Zas, Zat, Zau, Zav, Zaw, Zax, Zay, Zaz, Za0, Za1, Za2, Za3, Za4, Za5, Za6, Za7, Za8, Za9, Zba, Zbb, Zbc, Zbd, Zbe, Zbf, Zbg, Zbh, Zbi, Zbj, Zbk, Zbl, Zbm, Zbn, Zbo, Zbp, Zbq, Zbr, Zbs, Zbt, Zbu, Zbv, Zbw, Zbx, Zby, Zbz, Zb0, Zb1, Zb2, decide_true, decide_false, Zb3, Zb4, Zb5, Zb6, Zb7, Zb8, Zb9, Zca, Zcb, Zcc, Zcd, beq_self_eq_true, cond_true, cond_false, if_false, if_true, reduceIte, reduceCtorEq, not_true_eq_false, not_false_eq_true, true_and, and_true, forall_const, false_and, and_false, implies_true, Zce, Zcf, Zcg, Zch, Zci]
  refine NewB.of fun b1 hb1 hF1 => ?_
  simp (disch := first | assumption | exact Ne.symm (by assumption) | omega) only [hF1, ↓ZD, ZU, ne_eq, Zaa, Zab, false_implies, Zac, Zad, Zae, Zaf, Zag, Zah, Zai, Zaj, Zak, Zal, Zam, Zan, Zao, Zap, Zaq, Zar, Zas, Zat, Zau, Zav, Zaw, Zax, Zay, Zaz, Za0, Za1, Za2, Za3, Za4, Za5, Za6, Za7, Za8, Za9, Zba, Zbb, Zbc, Zbd, Zbe, Zbf, Zbg, Zbh, Zbi, Zbj, Zbk, Zbl, Zbm, Zbn, Zbo, Zbp, Zbq, Zbr, Zbs, Zbt, Zbu, Zbv, Zbw, Zbx, Zby, Zbz, Zb0, Zb1, Zb2, decide_true, decide_false, Zb3, Zb4, Zb5, Zb6, Zb7, Zb8, Zb9, Zca, Zcb, Zcc, Zcd, beq_self_eq_true, cond_true, cond_false, if_false, if_true, reduceIte, reduceCtorEq, not_true_eq_false, not_false_eq_true, true_and, and_true, forall_const, false_and, and_false, implies_true, Zce, Zcf, Zcg, Zch, Zci]
  refine CallE.pure h1 ?_
  unfold chk
  simp (disch := first | assumption | exact Ne.symm (by assumption) | omega) only [hF1, ↓ZD, ZU, ne_eq, Zaa, Zab, false_implies, Zac, Zad, Zae, Zaf, Zag, Zah, Zai, Zaj, Zak, Zal, Zam, Zan, Zao, Zap, Zaq, Zar, Zas, Zat, Zau, Zav, Zaw, Zax, Zay, Zaz, Za0, Za1, Za2, Za3, Za4, Za5, Za6, Za7, Za8, Za9, Zba, Zbb, Zbc, Zbd, Zbe, Zbf, Zbg, Zbh, Zbi, Zbj, Zbk, Zbl, Zbm, Zbn, Zbo, Zbp, Zbq, Zbr, Zbs, Zbt, Zbu, Zbv, Zbw, Zbx, Zby, Zbz, Zb0, Zb1, Zb2, decide_true, decide_false, Zb3, Zb4, Zb5, Zb6, Zb7, Zb8, Zb9, Zca, Zcb, Zcc, Zcd, beq_self_eq_true, cond_true, cond_false, if_false, if_true, reduceIte, reduceCtorEq, not_true_eq_false, not_false_eq_true, true_and, and_true, forall_const, false_and, and_false, implies_true, Zce, Zcf, Zcg, Zch, Zci]
  refine ⟨fun h => ?_, fun h => ?_⟩
  · rw [if_pos (of_decide_eq_true h)]
  · rw [if_neg (of_decide_eq_false h)]
    refine CallE.pure h2 ?_
    simp (disch := first | assumption | exact Ne.symm (by assumption) | omega) only [hF1, ↓ZD, ZU, ne_eq, Zaa, Zab, false_implies, Zac, Zad, Zae, Zaf, Zag, Zah, Zai, Zaj, Zak, Zal, Zam, Zan, Zao, Zap, Zaq, Zar, Zas, Zat, Zau, Zav, Zaw, Zax, Zay, Zaz, Za0, Za1, Za2, Za3, Za4, Za5, Za6, Za7, Za8, Za9, Zba, Zbb, Zbc, Zbd, Zbe, Zbf, Zbg, Zbh, Zbi, Zbj, Zbk, Zbl, Zbm, Zbn, Zbo, Zbp, Zbq, Zbr, Zbs, Zbt, Zbu, Zbv, Zbw, Zbx, Zby, Zbz, Zb0, Zb1, Zb2, decide_true, decide_false, Zb3, Zb4, Zb5, Zb6, Zb7, Zb8, Zb9, Zca, Zcb, Zcc, Zcd, beq_self_eq_true, cond_true, cond_false, if_false, if_true, reduceIte, reduceCtorEq, not_true_eq_false, not_false_eq_true, true_and, and_true, forall_const, false_and, and_false, implies_true, Zce, Zcf, Zcg, Zch, Zci]
    cases may a <;> simp
mutual
def few : Ty → Int → Bool
  | .mk _ _ es ats, d => !(decide (10 < (es.length : Int)) || decide (10 < (ats.length : Int)) || decide (60 < d)) && (fewL es (d + 1) && fewA ats (d + 1))
def fewL : List Ty → Int → Bool
  | [], _ => true
  | x :: l, d => few x d && fewL l d
def fewA : List (List UInt8 × Ty × Bool) → Int → Bool
  | [], _ => true
  | (_, t, _) :: l, d => few t d && fewA l d
end
theorem fewL_eq (d : Int) : ∀ l, fewL l d = l.all fun x => few x d
  | [] => by simp [fewL]
  | x :: l => by rw [fewL, fewL_eq]; rfl
theorem fewA_eq (d : Int) : ∀ l, fewA l d = l.all fun x : At => few x.2.1 d
  | [] => by simp [fewA]
  | (_, t, _) :: l => by rw [fewA, fewA_eq]; rfl
theorem fewL_snoc {d : Int} {l : List Ty} {i : Nat} {x : Ty} (h : l[i]? = some x) : fewL (l.take (i + 1)) d = (fewL (l.take i) d && few x d) := by
  rw [fewL_eq, fewL_eq, take_snoc h, List.all_append]; simp
theorem fewA_snoc {d : Int} {l : List At} {i : Nat} {x : At} (h : l[i]? = some x) : fewA (l.take (i + 1)) d = (fewA (l.take i) d && few x.2.1 d) := by
  rw [fewA_eq, fewA_eq, take_snoc h, List.all_append]; simp
theorem fewL_no {d : Int} {l : List Ty} {i : Nat} {x : Ty} (h : l[i]? = some x) (hx : few x d = false) : fewL l d = false := by
  rw [fewL_eq, List.all_eq_false]; exact ⟨x, List.mem_of_getElem? h, by simp [hx]⟩
theorem fewA_no {d : Int} {l : List At} {i : Nat} {x : At} (h : l[i]? = some x) (hx : few x.2.1 d = false) : fewA l d = false := by
  rw [fewA_eq, List.all_eq_false]; exact ⟨x, List.mem_of_getElem? h, by simp [hx]⟩
theorem few_pure (F : Base) {ca : List Value} {a : Ty} (ha : RepT F ca a) : ∀ d : Int, -9223372036854775808 ≤ d → d ≤ 9223372036854775807 → PureV Try.prog F 9 #[.agg ca.toArray, .int .i64 d] (.bool (few a d)) := by
  induction ha with
  | mk k nm a1 c1 a2 c2 es ats g1 g2 hk hn hl1 hl2 hc1 hc2 h1 r1 h2 r2 i1 i2 =>
    intro d hd1 hd2
    refine pureV_of_svc mixed Try.func9 low9 (Nat.le_of_ble_eq_true rfl) (fun w0 => ?_)
    simp (disch := first | assumption | exact Ne.symm (by assumption) | omega) only [fu9, ↓ZD, ZU, ne_eq, Zaa, Zab, false_implies, Zac, Zad, Zae, Zaf, Zag, Zah, Zai, Zaj, Zak, Zal, Zam, Zan, Zao, Zap, Zaq, Zar, Zas, Zat, Zau, Zav, Zaw, Zax, Zay, Zaz, Za0, Za1, Za2, Za3, Za4, Za5, Za6, Za7, Za8, Za9, Zba, Zbb, Zbc, Zbd, Zbe, Zbf, Zbg, Zbh, Zbi, Zbj, Zbk, Zbl, Zbm, Zbn, Zbo, Zbp, Zbq, Zbr, Zbs, Zbt, Zbu, Zbv, Zbw, Zbx, Zby, Zbz, Zb0, Zb1, Zb2, decide_true, decide_false, Zb3, Zb4, Zb5, Zb6, Zb7, Zb8, Zb9, Zca, Zcb, Zcc, Zcd, beq_self_eq_true, cond_true, cond_false, if_false, if_true, reduceIte, reduceCtorEq, not_true_eq_false, not_false_eq_true, true_and, and_true, forall_const, false_and, and_false, implies_true, Zce, Zcf, Zcg, Zch, Zci]
    refine NewB.of fun b1 hb1 hF1 => ?_
    rw [few]
    simp (disch := first | assumption | exact Ne.symm (by assumption) | omega) only [hF1, ↓ZD, ZU, ne_eq, Zaa, Zab, false_implies, Zac, Zad, Zae, Zaf, Zag, Zah, Zai, Zaj, Zak, Zal, Zam, Zan, Zao, Zap, Zaq, Zar, Zas, Zat, Zau, Zav, Zaw, Zax, Zay, Zaz, Za0, Za1, Za2, Za3, Za4, Za5, Za6, Za7, Za8, Za9, Zba, Zbb, Zbc, Zbd, Zbe, Zbf, Zbg, Zbh, Zbi, Zbj, Zbk, Zbl, Zbm, Zbn, Zbo, Zbp, Zbq, Zbr, Zbs, Zbt, Zbu, Zbv, Zbw, Zbx, Zby, Zbz, Zb0, Zb1, Zb2, decide_true, decide_false, Zb3, Zb4, Zb5, Zb6, Zb7, Zb8, Zb9, Zca, Zcb, Zcc, Zcd, beq_self_eq_true, cond_true, cond_false, if_false, if_true, reduceIte, reduceCtorEq, not_true_eq_false, not_false_eq_true, true_and, and_true, forall_const, false_and, and_false, implies_true, Zce, Zcf, Zcg, Zch, Zci]
    have hbd : (decide (10 < (es.length : Int)) || decide (10 < (ats.length : Int)) || decide (60 < d)) = false → d ≤ 60 := fun h => by
      simp only [Bool.or_eq_false_iff, decide_eq_false_iff_not] at h; omega
    revert hbd
    generalize (decide (10 < (es.length : Int)) || decide (10 < (ats.length : Int)) || decide (60 < d)) = bad
    intro hbd
    refine ⟨fun hb => ?_, fun hb => ?_⟩
    · rw [hb]; rfl
    have hdm := hbd hb
    rw [hb, Bool.not_false, Bool.true_and]
    refine LoopL.inv (α := Nat) (fun i => i ≤ es.length ∧ fewL (es.take i) (d + 1) = true)
      (fun i => [(1, some (.int .i64 d)), (2, some (.pointer (some ⟨b1, 0, none⟩))), (5, some (.int .i64 i))])
      (fun i => [(b1, .cells #[.int .i64 k, .string (bs nm), .slice a1 es.length c1, .slice a2 ats.length c2] 25 (0, 0))])
      (fun i => es.length - i) 0 ⟨Nat.zero_le _, rfl⟩ (by (simp only [Le_nil, Le_cons]; simp (disch := first | assumption | exact Ne.symm (by assumption) | omega) only [↓ZD, ZU, ne_eq, Zaa, Zab, false_implies, Zac, Zad, Zae, Zaf, Zag, Zah, Zai, Zaj, Zak, Zal, Zam, Zan, Zao, Zap, Zaq, Zar, Zas, Zat, Zau, Zav, Zaw, Zax, Zay, Zaz, Za0, Za1, Za2, Za3, Za4, Za5, Za6, Za7, Za8, Za9, Zba, Zbb, Zbc, Zbd, Zbe, Zbf, Zbg, Zbh, Zbi, Zbj, Zbk, Zbl, Zbm, Zbn, Zbo, Zbp, Zbq, Zbr, Zbs, Zbt, Zbu, Zbv, Zbw, Zbx, Zby, Zbz, Zb0, Zb1, Zb2, decide_true, decide_false, Zb3, Zb4, Zb5, Zb6, Zb7, Zb8, Zb9, Zca, Zcb, Zcc, Zcd, beq_self_eq_true, cond_true, cond_false, if_false, if_true, reduceIte, reduceCtorEq, not_true_eq_false, not_false_eq_true, true_and, and_true, forall_const, false_and, and_false, implies_true, Zce, Zcf, Zcg, Zch, Zci]; try trivial)) (by (simp only [HLe_nil, HLe_cons]; try (simp (disch := first | assumption | exact Ne.symm (by assumption) | omega) only [↓ZD, ZU, ne_eq, Zaa, Zab, false_implies, Zac, Zad, Zae, Zaf, Zag, Zah, Zai, Zaj, Zak, Zal, Zam, Zan, Zao, Zap, Zaq, Zar, Zas, Zat, Zau, Zav, Zaw, Zax, Zay, Zaz, Za0, Za1, Za2, Za3, Za4, Za5, Za6, Za7, Za8, Za9, Zba, Zbb, Zbc, Zbd, Zbe, Zbf, Zbg, Zbh, Zbi, Zbj, Zbk, Zbl, Zbm, Zbn, Zbo, Zbp, Zbq, Zbr, Zbs, Zbt, Zbu, Zbv, Zbw, Zbx, Zby, Zbz, Zb0, Zb1, Zb2, decide_true, decide_false, Zb3, Zb4, Zb5, Zb6, Zb7, Zb8, Zb9, Zca, Zcb, Zcc, Zcd, beq_self_eq_true, cond_true, cond_false, if_false, if_true, reduceIte, reduceCtorEq, not_true_eq_false, not_false_eq_true, true_and, and_true, forall_const, false_and, and_false, implies_true, Zce, Zcf, Zcg, Zch, Zci]))) ?_
    rintro i ⟨hi, hml⟩
    by_cases hlt : i < es.length
    · have hd : decide ((i : Int) < (es.length : Int)) = true := by simp; omega
      have gx := getT hlt
      have hc := i1 i _ gx (d + 1) (by omega) (by omega)
      have hms := fewL_snoc (d := d + 1) gx
      rw [hml, Bool.true_and] at hms
      obtain ⟨ba, oa, rfl, hla⟩ := (h1 i _ gx).ldn
      simp (disch := first | assumption | exact Ne.symm (by assumption) | omega) only [hF1, hd, ↓ZD, ZU, ne_eq, Zaa, Zab, false_implies, Zac, Zad, Zae, Zaf, Zag, Zah, Zai, Zaj, Zak, Zal, Zam, Zan, Zao, Zap, Zaq, Zar, Zas, Zat, Zau, Zav, Zaw, Zax, Zay, Zaz, Za0, Za1, Za2, Za3, Za4, Za5, Za6, Za7, Za8, Za9, Zba, Zbb, Zbc, Zbd, Zbe, Zbf, Zbg, Zbh, Zbi, Zbj, Zbk, Zbl, Zbm, Zbn, Zbo, Zbp, Zbq, Zbr, Zbs, Zbt, Zbu, Zbv, Zbw, Zbx, Zby, Zbz, Zb0, Zb1, Zb2, decide_true, decide_false, Zb3, Zb4, Zb5, Zb6, Zb7, Zb8, Zb9, Zca, Zcb, Zcc, Zcd, beq_self_eq_true, cond_true, cond_false, if_false, if_true, reduceIte, reduceCtorEq, not_true_eq_false, not_false_eq_true, true_and, and_true, forall_const, false_and, and_false, implies_true, Zce, Zcf, Zcg, Zch, Zci]
      refine conj.of (by omega) ?_
      simp (disch := first | assumption | exact Ne.symm (by assumption) | omega) only [hF1, hd, Int.toNat_natCast, ↓hla, ↓ZD, ZU, ne_eq, Zaa, Zab, false_implies, Zac, Zad, Zae, Zaf, Zag, Zah, Zai, Zaj, Zak, Zal, Zam, Zan, Zao, Zap, Zaq, Zar, Zas, Zat, Zau, Zav, Zaw, Zax, Zay, Zaz, Za0, Za1, Za2, Za3, Za4, Za5, Za6, Za7, Za8, Za9, Zba, Zbb, Zbc, Zbd, Zbe, Zbf, Zbg, Zbh, Zbi, Zbj, Zbk, Zbl, Zbm, Zbn, Zbo, Zbp, Zbq, Zbr, Zbs, Zbt, Zbu, Zbv, Zbw, Zbx, Zby, Zbz, Zb0, Zb1, Zb2, decide_true, decide_false, Zb3, Zb4, Zb5, Zb6, Zb7, Zb8, Zb9, Zca, Zcb, Zcc, Zcd, beq_self_eq_true, cond_true, cond_false, if_false, if_true, reduceIte, reduceCtorEq, not_true_eq_false, not_false_eq_true, true_and, and_true, forall_const, false_and, and_false, implies_true, Zce, Zcf, Zcg, Zch, Zci]
      refine CallE.pure hc ?_
      simp (disch := first | assumption | exact Ne.symm (by assumption) | omega) only [hF1, ↓ZD, ZU, ne_eq, Zaa, Zab, false_implies, Zac, Zad, Zae, Zaf, Zag, Zah, Zai, Zaj, Zak, Zal, Zam, Zan, Zao, Zap, Zaq, Zar, Zas, Zat, Zau, Zav, Zaw, Zax, Zay, Zaz, Za0, Za1, Za2, Za3, Za4, Za5, Za6, Za7, Za8, Za9, Zba, Zbb, Zbc, Zbd, Zbe, Zbf, Zbg, Zbh, Zbi, Zbj, Zbk, Zbl, Zbm, Zbn, Zbo, Zbp, Zbq, Zbr, Zbs, Zbt, Zbu, Zbv, Zbw, Zbx, Zby, Zbz, Zb0, Zb1, Zb2, decide_true, decide_false, Zb3, Zb4, Zb5, Zb6, Zb7, Zb8, Zb9, Zca, Zcb, Zcc, Zcd, beq_self_eq_true, cond_true, cond_false, if_false, if_true, reduceIte, reduceCtorEq, not_true_eq_false, not_false_eq_true, true_and, and_true, forall_const, false_and, and_false, implies_true, Zce, Zcf, Zcg, Zch, Zci]
      refine ⟨fun hx => ?_, fun hx => ?_⟩
      · have hx : few (es.getD i nilT) (d + 1) = false := by simpa using hx
        rw [fewL_no gx hx]; rfl
      · have hx : few (es.getD i nilT) (d + 1) = true := by simpa using hx
        refine invK.on (i + 1) (⟨by omega, by rw [hms, hx]⟩) (by omega) (by (simp only [Le_nil, Le_cons]; simp (disch := first | assumption | exact Ne.symm (by assumption) | omega) only [hF1, ↓ZD, ZU, ne_eq, Zaa, Zab, false_implies, Zac, Zad, Zae, Zaf, Zag, Zah, Zai, Zaj, Zak, Zal, Zam, Zan, Zao, Zap, Zaq, Zar, Zas, Zat, Zau, Zav, Zaw, Zax, Zay, Zaz, Za0, Za1, Za2, Za3, Za4, Za5, Za6, Za7, Za8, Za9, Zba, Zbb, Zbc, Zbd, Zbe, Zbf, Zbg, Zbh, Zbi, Zbj, Zbk, Zbl, Zbm, Zbn, Zbo, Zbp, Zbq, Zbr, Zbs, Zbt, Zbu, Zbv, Zbw, Zbx, Zby, Zbz, Zb0, Zb1, Zb2, decide_true, decide_false, Zb3, Zb4, Zb5, Zb6, Zb7, Zb8, Zb9, Zca, Zcb, Zcc, Zcd, beq_self_eq_true, cond_true, cond_false, if_false, if_true, reduceIte, reduceCtorEq, not_true_eq_false, not_false_eq_true, true_and, and_true, forall_const, false_and, and_false, implies_true, Zce, Zcf, Zcg, Zch, Zci]; try trivial)) (by (simp only [HLe_nil, HLe_cons]; try (simp (disch := first | assumption | exact Ne.symm (by assumption) | omega) only [hF1, ↓ZD, ZU, ne_eq, Zaa, Zab, false_implies, Zac, Zad, Zae, Zaf, Zag, Zah, Zai, Zaj, Zak, Zal, Zam, Zan, Zao, Zap, Zaq, Zar, Zas, Zat, Zau, Zav, Zaw, Zax, Zay, Zaz, Za0, Za1, Za2, Za3, Za4, Za5, Za6, Za7, Za8, Za9, Zba, Zbb, Zbc, Zbd, Zbe, Zbf, Zbg, Zbh, Zbi, Zbj, Zbk, Zbl, Zbm, Zbn, Zbo, Zbp, Zbq, Zbr, Zbs, Zbt, Zbu, Zbv, Zbw, Zbx, Zby, Zbz, Zb0, Zb1, Zb2, decide_true, decide_false, Zb3, Zb4, Zb5, Zb6, Zb7, Zb8, Zb9, Zca, Zcb, Zcc, Zcd, beq_self_eq_true, cond_true, cond_false, if_false, if_true, reduceIte, reduceCtorEq, not_true_eq_false, not_false_eq_true, true_and, and_true, forall_const, false_and, and_false, implies_true, Zce, Zcf, Zcg, Zch, Zci])))
    · have hd : decide ((i : Int) < (es.length : Int)) = false := by simp; omega
      obtain rfl : i = es.length := by omega
      rw [List.take_length] at hml
      rw [hml, Bool.true_and]
      simp (disch := first | assumption | exact Ne.symm (by assumption) | omega) only [hF1, hd, ↓ZD, ZU, ne_eq, Zaa, Zab, false_implies, Zac, Zad, Zae, Zaf, Zag, Zah, Zai, Zaj, Zak, Zal, Zam, Zan, Zao, Zap, Zaq, Zar, Zas, Zat, Zau, Zav, Zaw, Zax, Zay, Zaz, Za0, Za1, Za2, Za3, Za4, Za5, Za6, Za7, Za8, Za9, Zba, Zbb, Zbc, Zbd, Zbe, Zbf, Zbg, Zbh, Zbi, Zbj, Zbk, Zbl, Zbm, Zbn, Zbo, Zbp, Zbq, Zbr, Zbs, Zbt, Zbu, Zbv, Zbw, Zbx, Zby, Zbz, Zb0, Zb1, Zb2, decide_true, decide_false, Zb3, Zb4, Zb5, Zb6, Zb7, Zb8, Zb9, Zca, Zcb, Zcc, Zcd, beq_self_eq_true, cond_true, cond_false, if_false, if_true, reduceIte, reduceCtorEq, not_true_eq_false, not_false_eq_true, true_and, and_true, forall_const, false_and, and_false, implies_true, Zce, Zcf, Zcg, Zch, Zci]
      refine LoopL.inv (α := Nat) (fun i => i ≤ ats.length ∧ fewA (ats.take i) (d + 1) = true)
        (fun i => [(1, some (.int .i64 d)), (2, some (.pointer (some ⟨b1, 0, none⟩))), (7, some (.int .i64 i))])
        (fun i => [(b1, .cells #[.int .i64 k, .string (bs nm), .slice a1 es.length c1, .slice a2 ats.length c2] 25 (0, 0))])
        (fun i => ats.length - i) 0 ⟨Nat.zero_le _, rfl⟩ (by (simp only [Le_nil, Le_cons]; simp (disch := first | assumption | exact Ne.symm (by assumption) | omega) only [↓ZD, ZU, ne_eq, Zaa, Zab, false_implies, Zac, Zad, Zae, Zaf, Zag, Zah, Zai, Zaj, Zak, Zal, Zam, Zan, Zao, Zap, Zaq, Zar, Zas, Zat, Zau, Zav, Zaw, Zax, Zay, Zaz, Za0, Za1, Za2, Za3, Za4, Za5, Za6, Za7, Za8, Za9, Zba, Zbb, Zbc, Zbd, Zbe, Zbf, Zbg, Zbh, Zbi, Zbj, Zbk, Zbl, Zbm, Zbn, Zbo, Zbp, Zbq, Zbr, Zbs, Zbt, Zbu, Zbv, Zbw, Zbx, Zby, Zbz, Zb0, Zb1, Zb2, decide_true, decide_false, Zb3, Zb4, Zb5, Zb6, Zb7, Zb8, Zb9, Zca, Zcb, Zcc, Zcd, beq_self_eq_true, cond_true, cond_false, if_false, if_true, reduceIte, reduceCtorEq, not_true_eq_false, not_false_eq_true, true_and, and_true, forall_const, false_and, and_false, implies_true, Zce, Zcf, Zcg, Zch, Zci]; try trivial)) (by (simp only [HLe_nil, HLe_cons]; try (simp (disch := first | assumption | exact Ne.symm (by assumption) | omega) only [↓ZD, ZU, ne_eq, Zaa, Zab, false_implies, Zac, Zad, Zae, Zaf, Zag, Zah, Zai, Zaj, Zak, Zal, Zam, Zan, Zao, Zap, Zaq, Zar, Zas, Zat, Zau, Zav, Zaw, Zax, Zay, Zaz, Za0, Za1, Za2, Za3, Za4, Za5, Za6, Za7, Za8, Za9, Zba, Zbb, Zbc, Zbd, Zbe, Zbf, Zbg, Zbh, Zbi, Zbj, Zbk, Zbl, Zbm, Zbn, Zbo, Zbp, Zbq, Zbr, Zbs, Zbt, Zbu, Zbv, Zbw, Zbx, Zby, Zbz, Zb0, Zb1, Zb2, decide_true, decide_false, Zb3, Zb4, Zb5, Zb6, Zb7, Zb8, Zb9, Zca, Zcb, Zcc, Zcd, beq_self_eq_true, cond_true, cond_false, if_false, if_true, reduceIte, reduceCtorEq, not_true_eq_false, not_false_eq_true, true_and, and_true, forall_const, false_and, and_false, implies_true, Zce, Zcf, Zcg, Zch, Zci]))) ?_
      rintro i ⟨hi, hma⟩
      by_cases hlt : i < ats.length
      · have hd : decide ((i : Int) < (ats.length : Int)) = true := by simp; omega
        have gx := getA hlt
        have hc := i2 i _ gx (d + 1) (by omega) (by omega)
        have hms := fewA_snoc (d := d + 1) gx
        rw [hma, Bool.true_and] at hms
        obtain ⟨k', nm', a1', n1', c1', a2', n2', c2', hform⟩ := (r2 i _ gx).form
        rw [hform] at hc
        have hcl := h2 i _ gx
        rw [hform] at hcl
        obtain ⟨ba, oa, rfl, hla, hl1'⟩ := hcl.all
        have hla1 := hla 1 4 (by omega)
        simp (disch := first | assumption | exact Ne.symm (by assumption) | omega) only [hF1, hd, ↓ZD, ZU, ne_eq, Zaa, Zab, false_implies, Zac, Zad, Zae, Zaf, Zag, Zah, Zai, Zaj, Zak, Zal, Zam, Zan, Zao, Zap, Zaq, Zar, Zas, Zat, Zau, Zav, Zaw, Zax, Zay, Zaz, Za0, Za1, Za2, Za3, Za4, Za5, Za6, Za7, Za8, Za9, Zba, Zbb, Zbc, Zbd, Zbe, Zbf, Zbg, Zbh, Zbi, Zbj, Zbk, Zbl, Zbm, Zbn, Zbo, Zbp, Zbq, Zbr, Zbs, Zbt, Zbu, Zbv, Zbw, Zbx, Zby, Zbz, Zb0, Zb1, Zb2, decide_true, decide_false, Zb3, Zb4, Zb5, Zb6, Zb7, Zb8, Zb9, Zca, Zcb, Zcc, Zcd, beq_self_eq_true, cond_true, cond_false, if_false, if_true, reduceIte, reduceCtorEq, not_true_eq_false, not_false_eq_true, true_and, and_true, forall_const, false_and, and_false, implies_true, Zce, Zcf, Zcg, Zch, Zci]
        refine conj.of (by omega) ?_
        simp (disch := first | assumption | exact Ne.symm (by assumption) | omega) only [hF1, hd, Int.toNat_natCast, ↓hla1, ↓ZD, ZU, ne_eq, Zaa, Zab, false_implies, Zac, Zad, Zae, Zaf, Zag, Zah, Zai, Zaj, Zak, Zal, Zam, Zan, Zao, Zap, Zaq, Zar, Zas, Zat, Zau, Zav, Zaw, Zax, Zay, Zaz, Za0, Za1, Za2, Za3, Za4, Za5, Za6, Za7, Za8, Za9, Zba, Zbb, Zbc, Zbd, Zbe, Zbf, Zbg, Zbh, Zbi, Zbj, Zbk, Zbl, Zbm, Zbn, Zbo, Zbp, Zbq, Zbr, Zbs, Zbt, Zbu, Zbv, Zbw, Zbx, Zby, Zbz, Zb0, Zb1, Zb2, decide_true, decide_false, Zb3, Zb4, Zb5, Zb6, Zb7, Zb8, Zb9, Zca, Zcb, Zcc, Zcd, beq_self_eq_true, cond_true, cond_false, if_false, if_true, reduceIte, reduceCtorEq, not_true_eq_false, not_false_eq_true, true_and, and_true, forall_const, false_and, and_false, implies_true, Zce, Zcf, Zcg, Zch, Zci]
        refine CallE.pure hc ?_
        simp (disch := first | assumption | exact Ne.symm (by assumption) | omega) only [hF1, ↓ZD, ZU, ne_eq, Zaa, Zab, false_implies, Zac, Zad, Zae, Zaf, Zag, Zah, Zai, Zaj, Zak, Zal, Zam, Zan, Zao, Zap, Zaq, Zar, Zas, Zat, Zau, Zav, Zaw, Zax, Zay, Zaz, Za0, Za1, Za2, Za3, Za4, Za5, Za6, Za7, Za8, Za9, Zba, Zbb, Zbc, Zbd, Zbe, Zbf, Zbg, Zbh, Zbi, Zbj, Zbk, Zbl, Zbm, Zbn, Zbo, Zbp, Zbq, Zbr, Zbs, Zbt, Zbu, Zbv, Zbw, Zbx, Zby, Zbz, Zb0, Zb1, Zb2, decide_true, decide_false, Zb3, Zb4, Zb5, Zb6, Zb7, Zb8, Zb9, Zca, Zcb, Zcc, Zcd, beq_self_eq_true, cond_true, cond_false, if_false, if_true, reduceIte, reduceCtorEq, not_true_eq_false, not_false_eq_true, true_and, and_true, forall_const, false_and, and_false, implies_true, Zce, Zcf, Zcg, Zch, Zci]
        refine ⟨fun hx => ?_, fun hx => ?_⟩
        · have hx : few (ats.getD i nilA).2.1 (d + 1) = false := by simpa using hx
          rw [fewA_no gx hx]
        · have hx : few (ats.getD i nilA).2.1 (d + 1) = true := by simpa using hx
          refine invK.on (i + 1) (⟨by omega, by rw [hms, hx]⟩) (by omega) (by (simp only [Le_nil, Le_cons]; simp (disch := first | assumption | exact Ne.symm (by assumption) | omega) only [hF1, ↓ZD, ZU, ne_eq, Zaa, Zab, false_implies, Zac, Zad, Zae, Zaf, Zag, Zah, Zai, Zaj, Zak, Zal, Zam, Zan, Zao, Zap, Zaq, Zar, Zas, Zat, Zau, Zav, Zaw, Zax, Zay, Zaz, Za0, Za1, Za2, Za3, Za4, Za5, Za6, Za7, Za8, Za9, Zba, Zbb, Zbc, Zbd, Zbe, Zbf, Zbg, Zbh, Zbi, Zbj, Zbk, Zbl, Zbm, Zbn, Zbo, Zbp, Zbq, Zbr, Zbs, Zbt, Zbu, Zbv, Zbw, Zbx, Zby, Zbz, Zb0, Zb1, Zb2, decide_true, decide_false, Zb3, Zb4, Zb5, Zb6, Zb7, Zb8, Zb9, Zca, Zcb, Zcc, Zcd, beq_self_eq_true, cond_true, cond_false, if_false, if_true, reduceIte, reduceCtorEq, not_true_eq_false, not_false_eq_true, true_and, and_true, forall_const, false_and, and_false, implies_true, Zce, Zcf, Zcg, Zch, Zci]; try trivial)) (by (simp only [HLe_nil, HLe_cons]; try (simp (disch := first | assumption | exact Ne.symm (by assumption) | omega) only [hF1, ↓ZD, ZU, ne_eq, Zaa, Zab, false_implies, Zac, Zad, Zae, Zaf, Zag, Zah, Zai, Zaj, Zak, Zal, Zam, Zan, Zao, Zap, Zaq, Zar, Zas, Zat, Zau, Zav, Zaw, Zax, Zay, Zaz, Za0, Za1, Za2, Za3, Za4, Za5, Za6, Za7, Za8, Za9, Zba, Zbb, Zbc, Zbd, Zbe, Zbf, Zbg, Zbh, Zbi, Zbj, Zbk, Zbl, Zbm, Zbn, Zbo, Zbp, Zbq, Zbr, Zbs, Zbt, Zbu, Zbv, Zbw, Zbx, Zby, Zbz, Zb0, Zb1, Zb2, decide_true, decide_false, Zb3, Zb4, Zb5, Zb6, Zb7, Zb8, Zb9, Zca, Zcb, Zcc, Zcd, beq_self_eq_true, cond_true, cond_false, if_false, if_true, reduceIte, reduceCtorEq, not_true_eq_false, not_false_eq_true, true_and, and_true, forall_const, false_and, and_false, implies_true, Zce, Zcf, Zcg, Zch, Zci])))
      · have hd : decide ((i : Int) < (ats.length : Int)) = false := by simp; omega
        obtain rfl : i = ats.length := by omega
        rw [List.take_length] at hma
        simp (disch := first | assumption | exact Ne.symm (by assumption) | omega) only [hF1, hd, ↓ZD, ZU, ne_eq, Zaa, Zab, false_implies, Zac, Zad, Zae, Zaf, Zag, Zah, Zai, Zaj, Zak, Zal, Zam, Zan, Zao, Zap, Zaq, Zar, Zas, Zat, Zau, Zav, Zaw, Zax, Zay, Zaz, Za0, Za1, Za2, Za3, Za4, Za5, Za6, Za7, Za8, Za9, Zba, Zbb, Zbc, Zbd, Zbe, Zbf, Zbg, Zbh, Zbi, Zbj, Zbk, Zbl, Zbm, Zbn, Zbo, Zbp, Zbq, Zbr, Zbs, Zbt, Zbu, Zbv, Zbw, Zbx, Zby, Zbz, Zb0, Zb1, Zb2, decide_true, decide_false, Zb3, Zb4, Zb5, Zb6, Zb7, Zb8, Zb9, Zca, Zcb, Zcc, Zcd, beq_self_eq_true, cond_true, cond_false, if_false, if_true, reduceIte, reduceCtorEq, not_true_eq_false, not_false_eq_true, true_and, and_true, forall_const, false_and, and_false, implies_true, Zce, Zcf, Zcg, Zch, Zci]
        rw [hma]
theorem depthL_le {n : Nat} : ∀ {l : List Ty}, (∀ x ∈ l, depth x ≤ n) → depthL l ≤ n
  | [], _ => Nat.zero_le _
  | x :: l, h => by
    rw [depthL]
    have h1 := h x List.mem_cons_self
    have h2 := depthL_le fun y hy => h y (List.mem_cons_of_mem _ hy)
    omega
theorem depthA_le {n : Nat} : ∀ {l : List At}, (∀ x ∈ l, depth x.2.1 ≤ n) → depthA l ≤ n
  | [], _ => Nat.zero_le _
  | (m, t, o) :: l, h => by
    rw [depthA]
    have h1 := h _ List.mem_cons_self
    have h2 := depthA_le fun y hy => h y (List.mem_cons_of_mem _ hy)
    simp only at h1
    omega
theorem few_len {k : Int} {n : List UInt8} {es : List Ty} {ats : List At} {d : Int} (h : few (.mk k n es ats) d = true) : es.length ≤ 10 ∧ ats.length ≤ 10 ∧ d ≤ 60 ∧ (∀ x ∈ es, few x (d + 1) = true) ∧ ∀ x ∈ ats, few x.2.1 (d + 1) = true := by
  rw [few, fewL_eq, fewA_eq] at h
  simp only [Bool.and_eq_true, Bool.not_eq_true', Bool.or_eq_false_iff, decide_eq_false_iff_not, List.all_eq_true] at h
  exact ⟨by omega, by omega, by omega, h.2.1, h.2.2⟩
theorem few_depth : ∀ (t : Ty) (d : Nat), few t d = true → depth t ≤ 61 - d := Ty.ind fun k n es ats h1 h2 d h => by
  obtain ⟨_, _, hd, h3, h4⟩ := few_len h
  rw [depth]
  have e1 := depthL_le (n := 61 - (d + 1)) fun x hx => h1 x hx (d + 1) (h3 x hx)
  have e2 := depthA_le (n := 61 - (d + 1)) fun x hx => h2 x hx (d + 1) (h4 x hx)
  omega
mutual
def size : Ty → Int
  | .mk _ _ es ats => szA ats (szL es 1)
def szL : List Ty → Int → Int
  | [], n => n
  | x :: l, n => if n < 1000 then szL l (n + size x) else n
def szA : List (List UInt8 × Ty × Bool) → Int → Int
  | [], n => n
  | (_, t, _) :: l, n => if n < 1000 then szA l (n + size t) else n
end
theorem szL_bound {D : Int} (hD : 1 ≤ D) : ∀ (l : List Ty) (n : Int), (∀ x ∈ l, 0 ≤ size x ∧ size x ≤ 1000 * (D - 1)) → 0 ≤ n → n ≤ 1000 * D → 0 ≤ szL l n ∧ szL l n ≤ 1000 * D
  | [], n, _, h1, h2 => by rw [szL]; exact ⟨h1, h2⟩
  | x :: l, n, h, h1, h2 => by
    rw [szL]
    have := h x List.mem_cons_self
    split
    · exact szL_bound hD l _ (fun y hy => h y (List.mem_cons_of_mem _ hy)) (by omega) (by omega)
    · exact ⟨h1, h2⟩
theorem szA_bound {D : Int} (hD : 1 ≤ D) : ∀ (l : List At) (n : Int), (∀ x ∈ l, 0 ≤ size x.2.1 ∧ size x.2.1 ≤ 1000 * (D - 1)) → 0 ≤ n → n ≤ 1000 * D → 0 ≤ szA l n ∧ szA l n ≤ 1000 * D
  | [], n, _, h1, h2 => by rw [szA]; exact ⟨h1, h2⟩
  | (m, t, o) :: l, n, h, h1, h2 => by
    rw [szA]
    have := h _ List.mem_cons_self
    simp only at this
    split
    · exact szA_bound hD l _ (fun y hy => h y (List.mem_cons_of_mem _ hy)) (by omega) (by omega)
    · exact ⟨h1, h2⟩
theorem depthL_in : ∀ {l : List Ty} {x : Ty}, x ∈ l → depth x ≤ depthL l := fun h => by
  obtain ⟨i, hi⟩ := List.mem_iff_getElem?.mp h; exact depthL_mem hi
theorem depthA_in : ∀ {l : List At} {x : At}, x ∈ l → depth x.2.1 ≤ depthA l := fun h => by
  obtain ⟨i, hi⟩ := List.mem_iff_getElem?.mp h; exact depthA_mem hi
theorem size_bound : ∀ t : Ty, 0 ≤ size t ∧ size t ≤ 1000 * (depth t : Int) := Ty.ind fun k n es ats h1 h2 => by
  rw [size, depth]
  have e1 : ∀ x ∈ es, 0 ≤ size x ∧ size x ≤ 1000 * (((max (depthL es) (depthA ats) + 1 : Nat) : Int) - 1) := fun x hx => by
    have := h1 x hx; have := depthL_in hx; omega
  have e2 : ∀ x ∈ ats, 0 ≤ size x.2.1 ∧ size x.2.1 ≤ 1000 * (((max (depthL es) (depthA ats) + 1 : Nat) : Int) - 1) := fun x hx => by
    have := h2 x hx; have := depthA_in hx; omega
  have e3 := szL_bound (by omega) es 1 e1 (by omega) (by omega)
  exact szA_bound (by omega) ats _ e2 e3.1 e3.2
theorem szL_drop {l : List Ty} {i : Nat} {x : Ty} {n : Int} (h : l[i]? = some x) (hn : n < 1000) : szL (l.drop i) n = szL (l.drop (i + 1)) (n + size x) := by
  obtain ⟨hi, e⟩ := List.getElem?_eq_some_iff.mp h
  rw [List.drop_eq_getElem_cons hi, szL, if_pos hn, e]
theorem szA_drop {l : List At} {i : Nat} {x : At} {n : Int} (h : l[i]? = some x) (hn : n < 1000) : szA (l.drop i) n = szA (l.drop (i + 1)) (n + size x.2.1) := by
  obtain ⟨hi, e⟩ := List.getElem?_eq_some_iff.mp h
  rw [List.drop_eq_getElem_cons hi, e]
  obtain ⟨m, t, o⟩ := x
  rw [szA, if_pos hn]
theorem szL_stop {l : List Ty} {n : Int} (hn : ¬n < 1000) : szL l n = n := by
  cases l with
  | nil => rfl
  | cons x l => rw [szL, if_neg hn]
theorem szA_stop {l : List At} {n : Int} (hn : ¬n < 1000) : szA l n = n := by
  cases l with
  | nil => rfl
  | cons x l => obtain ⟨m, t, o⟩ := x; rw [szA, if_neg hn]
theorem size_pure (F : Base) {ca : List Value} {a : Ty} (ha : RepT F ca a) : depth a ≤ 1000000 → PureV Try.prog F 10 #[.agg ca.toArray] (.int .i64 (size a)) := by
  induction ha with
  | mk k nm a1 c1 a2 c2 es ats g1 g2 hk hn hl1 hl2 hc1 hc2 h1 r1 h2 r2 i1 i2 =>
    intro hdp
    refine pureV_of_svc mixed Try.func10 low10 (Nat.le_of_ble_eq_true rfl) (fun w0 => ?_)
    simp (disch := first | assumption | exact Ne.symm (by assumption) | omega) only [fu10, ↓ZD, ZU, ne_eq, Zaa, Zab, false_implies, Zac, Zad, Zae, Zaf, Zag, Zah, Zai, Zaj, Zak, Zal, Zam, Zan, Zao, Zap, Zaq, Zar, Zas, Zat, Zau, Zav, Zaw, Zax, Zay, Zaz, Za0, Za1, Za2, Za3, Za4, Za5, Za6, Za7, Za8, Za9, Zba, Zbb, Zbc, Zbd, Zbe, Zbf, Zbg, Zbh, Zbi, Zbj, Zbk, Zbl, Zbm, Zbn, Zbo, Zbp, Zbq, Zbr, Zbs, Zbt, Zbu, Zbv, Zbw, Zbx, Zby, Zbz, Zb0, Zb1, Zb2, decide_true, decide_false, Zb3, Zb4, Zb5, Zb6, Zb7, Zb8, Zb9, Zca, Zcb, Zcc, Zcd, beq_self_eq_true, cond_true, cond_false, if_false, if_true, reduceIte, reduceCtorEq, not_true_eq_false, not_false_eq_true, true_and, and_true, forall_const, false_and, and_false, implies_true, Zce, Zcf, Zcg, Zch, Zci]
    refine NewB.of fun b1 hb1 hF1 => ?_
    rw [size]
    simp (disch := first | assumption | exact Ne.symm (by assumption) | omega) only [hF1, ↓ZD, ZU, ne_eq, Zaa, Zab, false_implies, Zac, Zad, Zae, Zaf, Zag, Zah, Zai, Zaj, Zak, Zal, Zam, Zan, Zao, Zap, Zaq, Zar, Zas, Zat, Zau, Zav, Zaw, Zax, Zay, Zaz, Za0, Za1, Za2, Za3, Za4, Za5, Za6, Za7, Za8, Za9, Zba, Zbb, Zbc, Zbd, Zbe, Zbf, Zbg, Zbh, Zbi, Zbj, Zbk, Zbl, Zbm, Zbn, Zbo, Zbp, Zbq, Zbr, Zbs, Zbt, Zbu, Zbv, Zbw, Zbx, Zby, Zbz, Zb0, Zb1, Zb2, decide_true, decide_false, Zb3, Zb4, Zb5, Zb6, Zb7, Zb8, Zb9, Zca, Zcb, Zcc, Zcd, beq_self_eq_true, cond_true, cond_false, if_false, if_true, reduceIte, reduceCtorEq, not_true_eq_false, not_false_eq_true, true_and, and_true, forall_const, false_and, and_false, implies_true, Zce, Zcf, Zcg, Zch, Zci]
    rw [depth] at hdp
    refine LoopL.inv (α := Nat × Int) (fun p => p.1 ≤ es.length ∧ 0 ≤ p.2 ∧ p.2 ≤ 1000 * ((depthL es + 1 : Nat) : Int) ∧ szL (es.drop p.1) p.2 = szL es 1)
      (fun p => [(1, some (.pointer (some ⟨b1, 0, none⟩))), (3, some (.int .i64 p.2)), (4, some (.int .i64 p.1))])
      (fun p => [(b1, .cells #[.int .i64 k, .string (bs nm), .slice a1 es.length c1, .slice a2 ats.length c2] 25 (0, 0))])
      (fun p => es.length - p.1) (0, 1) ⟨Nat.zero_le _, by omega, by omega, rfl⟩ (by (simp only [Le_nil, Le_cons]; simp (disch := first | assumption | exact Ne.symm (by assumption) | omega) only [↓ZD, ZU, ne_eq, Zaa, Zab, false_implies, Zac, Zad, Zae, Zaf, Zag, Zah, Zai, Zaj, Zak, Zal, Zam, Zan, Zao, Zap, Zaq, Zar, Zas, Zat, Zau, Zav, Zaw, Zax, Zay, Zaz, Za0, Za1, Za2, Za3, Za4, Za5, Za6, Za7, Za8, Za9, Zba, Zbb, Zbc, Zbd, Zbe, Zbf, Zbg, Zbh, Zbi, Zbj, Zbk, Zbl, Zbm, Zbn, Zbo, Zbp, Zbq, Zbr, Zbs, Zbt, Zbu, Zbv, Zbw, Zbx, Zby, Zbz, Zb0, Zb1, Zb2, decide_true, decide_false, Zb3, Zb4, Zb5, Zb6, Zb7, Zb8, Zb9, Zca, Zcb, Zcc, Zcd, beq_self_eq_true, cond_true, cond_false, if_false, if_true, reduceIte, reduceCtorEq, not_true_eq_false, not_false_eq_true, true_and, and_true, forall_const, false_and, and_false, implies_true, Zce, Zcf, Zcg, Zch, Zci]; try trivial)) (by (simp only [HLe_nil, HLe_cons]; try (simp (disch := first | assumption | exact Ne.symm (by assumption) | omega) only [↓ZD, ZU, ne_eq, Zaa, Zab, false_implies, Zac, Zad, Zae, Zaf, Zag, Zah, Zai, Zaj, Zak, Zal, Zam, Zan, Zao, Zap, Zaq, Zar, Zas, Zat, Zau, Zav, Zaw, Zax, Zay, Zaz, Za0, Za1, Za2, Za3, Za4, Za5, Za6, Za7, Za8, Za9, Zba, Zbb, Zbc, Zbd, Zbe, Zbf, Zbg, Zbh, Zbi, Zbj, Zbk, Zbl, Zbm, Zbn, Zbo, Zbp, Zbq, Zbr, Zbs, Zbt, Zbu, Zbv, Zbw, Zbx, Zby, Zbz, Zb0, Zb1, Zb2, decide_true, decide_false, Zb3, Zb4, Zb5, Zb6, Zb7, Zb8, Zb9, Zca, Zcb, Zcc, Zcd, beq_self_eq_true, cond_true, cond_false, if_false, if_true, reduceIte, reduceCtorEq, not_true_eq_false, not_false_eq_true, true_and, and_true, forall_const, false_and, and_false, implies_true, Zce, Zcf, Zcg, Zch, Zci]))) ?_
    rintro ⟨i, n⟩ ⟨hi, hn1, hn2, hz⟩
    simp only at hi hn1 hn2 hz
    by_cases hlt : i < es.length ∧ n < 1000
    · have hd : (decide ((i : Int) < (es.length : Int)) && decide (n < 1000)) = true := by simp; omega
      have gx := getT hlt.1
      have hdx := depthL_mem gx
      have hc := i1 i _ gx (by omega)
      have hsb := size_bound (es.getD i nilT)
      obtain ⟨ba, oa, rfl, hla⟩ := (h1 i _ gx).ldn
      simp (disch := first | assumption | exact Ne.symm (by assumption) | omega) only [hF1, hd, ↓ZD, ZU, ne_eq, Zaa, Zab, false_implies, Zac, Zad, Zae, Zaf, Zag, Zah, Zai, Zaj, Zak, Zal, Zam, Zan, Zao, Zap, Zaq, Zar, Zas, Zat, Zau, Zav, Zaw, Zax, Zay, Zaz, Za0, Za1, Za2, Za3, Za4, Za5, Za6, Za7, Za8, Za9, Zba, Zbb, Zbc, Zbd, Zbe, Zbf, Zbg, Zbh, Zbi, Zbj, Zbk, Zbl, Zbm, Zbn, Zbo, Zbp, Zbq, Zbr, Zbs, Zbt, Zbu, Zbv, Zbw, Zbx, Zby, Zbz, Zb0, Zb1, Zb2, decide_true, decide_false, Zb3, Zb4, Zb5, Zb6, Zb7, Zb8, Zb9, Zca, Zcb, Zcc, Zcd, beq_self_eq_true, cond_true, cond_false, if_false, if_true, reduceIte, reduceCtorEq, not_true_eq_false, not_false_eq_true, true_and, and_true, forall_const, false_and, and_false, implies_true, Zce, Zcf, Zcg, Zch, Zci]
      refine conj.of (by omega) ?_
      simp (disch := first | assumption | exact Ne.symm (by assumption) | omega) only [hF1, hd, Int.toNat_natCast, ↓hla, ↓ZD, ZU, ne_eq, Zaa, Zab, false_implies, Zac, Zad, Zae, Zaf, Zag, Zah, Zai, Zaj, Zak, Zal, Zam, Zan, Zao, Zap, Zaq, Zar, Zas, Zat, Zau, Zav, Zaw, Zax, Zay, Zaz, Za0, Za1, Za2, Za3, Za4, Za5, Za6, Za7, Za8, Za9, Zba, Zbb, Zbc, Zbd, Zbe, Zbf, Zbg, Zbh, Zbi, Zbj, Zbk, Zbl, Zbm, Zbn, Zbo, Zbp, Zbq, Zbr, Zbs, Zbt, Zbu, Zbv, Zbw, Zbx, Zby, Zbz, Zb0, Zb1, Zb2, decide_true, decide_false, Zb3, Zb4, Zb5, Zb6, Zb7, Zb8, Zb9, Zca, Zcb, Zcc, Zcd, beq_self_eq_true, cond_true, cond_false, if_false, if_true, reduceIte, reduceCtorEq, not_true_eq_false, not_false_eq_true, true_and, and_true, forall_const, false_and, and_false, implies_true, Zce, Zcf, Zcg, Zch, Zci]
      refine CallE.pure hc ?_
      simp (disch := first | assumption | exact Ne.symm (by assumption) | omega) only [hF1, ↓ZD, ZU, ne_eq, Zaa, Zab, false_implies, Zac, Zad, Zae, Zaf, Zag, Zah, Zai, Zaj, Zak, Zal, Zam, Zan, Zao, Zap, Zaq, Zar, Zas, Zat, Zau, Zav, Zaw, Zax, Zay, Zaz, Za0, Za1, Za2, Za3, Za4, Za5, Za6, Za7, Za8, Za9, Zba, Zbb, Zbc, Zbd, Zbe, Zbf, Zbg, Zbh, Zbi, Zbj, Zbk, Zbl, Zbm, Zbn, Zbo, Zbp, Zbq, Zbr, Zbs, Zbt, Zbu, Zbv, Zbw, Zbx, Zby, Zbz, Zb0, Zb1, Zb2, decide_true, decide_false, Zb3, Zb4, Zb5, Zb6, Zb7, Zb8, Zb9, Zca, Zcb, Zcc, Zcd, beq_self_eq_true, cond_true, cond_false, if_false, if_true, reduceIte, reduceCtorEq, not_true_eq_false, not_false_eq_true, true_and, and_true, forall_const, false_and, and_false, implies_true, Zce, Zcf, Zcg, Zch, Zci]
      refine invK.on ((i + 1, n + size (es.getD i nilT))) (⟨by simp only; omega, by simp only; omega, by simp only; omega, by simp only; rw [← szL_drop gx hlt.2, hz]⟩) (by omega) (by (simp only [Le_nil, Le_cons]; simp (disch := first | assumption | exact Ne.symm (by assumption) | omega) only [hF1, ↓ZD, ZU, ne_eq, Zaa, Zab, false_implies, Zac, Zad, Zae, Zaf, Zag, Zah, Zai, Zaj, Zak, Zal, Zam, Zan, Zao, Zap, Zaq, Zar, Zas, Zat, Zau, Zav, Zaw, Zax, Zay, Zaz, Za0, Za1, Za2, Za3, Za4, Za5, Za6, Za7, Za8, Za9, Zba, Zbb, Zbc, Zbd, Zbe, Zbf, Zbg, Zbh, Zbi, Zbj, Zbk, Zbl, Zbm, Zbn, Zbo, Zbp, Zbq, Zbr, Zbs, Zbt, Zbu, Zbv, Zbw, Zbx, Zby, Zbz, Zb0, Zb1, Zb2, decide_true, decide_false, Zb3, Zb4, Zb5, Zb6, Zb7, Zb8, Zb9, Zca, Zcb, Zcc, Zcd, beq_self_eq_true, cond_true, cond_false, if_false, if_true, reduceIte, reduceCtorEq, not_true_eq_false, not_false_eq_true, true_and, and_true, forall_const, false_and, and_false, implies_true, Zce, Zcf, Zcg, Zch, Zci]; try trivial)) (by (simp only [HLe_nil, HLe_cons]; try (simp (disch := first | assumption | exact Ne.symm (by assumption) | omega) only [hF1, ↓ZD, ZU, ne_eq, Zaa, Zab, false_implies, Zac, Zad, Zae, Zaf, Zag, Zah, Zai, Zaj, Zak, Zal, Zam, Zan, Zao, Zap, Zaq, Zar, Zas, Zat, Zau, Zav, Zaw, Zax, Zay, Zaz, Za0, Za1, Za2, Za3, Za4, Za5, Za6, Za7, Za8, Za9, Zba, Zbb, Zbc, Zbd, Zbe, Zbf, Zbg, Zbh, Zbi, Zbj, Zbk, Zbl, Zbm, Zbn, Zbo, Zbp, Zbq, Zbr, Zbs, Zbt, Zbu, Zbv, Zbw, Zbx, Zby, Zbz, Zb0, Zb1, Zb2, decide_true, decide_false, Zb3, Zb4, Zb5, Zb6, Zb7, Zb8, Zb9, Zca, Zcb, Zcc, Zcd, beq_self_eq_true, cond_true, cond_false, if_false, if_true, reduceIte, reduceCtorEq, not_true_eq_false, not_false_eq_true, true_and, and_true, forall_const, false_and, and_false, implies_true, Zce, Zcf, Zcg, Zch, Zci])))
    · have hd : (decide ((i : Int) < (es.length : Int)) && decide (n < 1000)) = false := by simp; omega
      have hz' : szL es 1 = n := by
        rw [← hz]
        by_cases hs : n < 1000
        · rw [List.drop_eq_nil_of_le (by omega)]; rfl
        · exact szL_stop hs
      rw [hz']
      simp (disch := first | assumption | exact Ne.symm (by assumption) | omega) only [hF1, hd, ↓ZD, ZU, ne_eq, Zaa, Zab, false_implies, Zac, Zad, Zae, Zaf, Zag, Zah, Zai, Zaj, Zak, Zal, Zam, Zan, Zao, Zap, Zaq, Zar, Zas, Zat, Zau, Zav, Zaw, Zax, Zay, Zaz, Za0, Za1, Za2, Za3, Za4, Za5, Za6, Za7, Za8, Za9, Zba, Zbb, Zbc, Zbd, Zbe, Zbf, Zbg, Zbh, Zbi, Zbj, Zbk, Zbl, Zbm, Zbn, Zbo, Zbp, Zbq, Zbr, Zbs, Zbt, Zbu, Zbv, Zbw, Zbx, Zby, Zbz, Zb0, Zb1, Zb2, decide_true, decide_false, Zb3, Zb4, Zb5, Zb6, Zb7, Zb8, Zb9, Zca, Zcb, Zcc, Zcd, beq_self_eq_true, cond_true, cond_false, if_false, if_true, reduceIte, reduceCtorEq, not_true_eq_false, not_false_eq_true, true_and, and_true, forall_const, false_and, and_false, implies_true, Zce, Zcf, Zcg, Zch, Zci]
      refine LoopL.inv (α := Nat × Int) (fun p => p.1 ≤ ats.length ∧ 0 ≤ p.2 ∧ p.2 ≤ 1000 * ((max (depthL es) (depthA ats) + 1 : Nat) : Int) ∧ szA (ats.drop p.1) p.2 = szA ats n)
        (fun p => [(1, some (.pointer (some ⟨b1, 0, none⟩))), (3, some (.int .i64 p.2)), (5, some (.int .i64 p.1))])
        (fun p => [(b1, .cells #[.int .i64 k, .string (bs nm), .slice a1 es.length c1, .slice a2 ats.length c2] 25 (0, 0))])
        (fun p => ats.length - p.1) (0, n) ⟨Nat.zero_le _, by simp only; omega, by simp only; omega, rfl⟩ (by (simp only [Le_nil, Le_cons]; simp (disch := first | assumption | exact Ne.symm (by assumption) | omega) only [↓ZD, ZU, ne_eq, Zaa, Zab, false_implies, Zac, Zad, Zae, Zaf, Zag, Zah, Zai, Zaj, Zak, Zal, Zam, Zan, Zao, Zap, Zaq, Zar, Zas, Zat, Zau, Zav, Zaw, Zax, Zay, Zaz, Za0, Za1, Za2, Za3, Za4, Za5, Za6, Za7, Za8, Za9, Zba, Zbb, Zbc, Zbd, Zbe, Zbf, Zbg, Zbh, Zbi, Zbj, Zbk, Zbl, Zbm, Zbn, Zbo, Zbp, Zbq, Zbr, Zbs, Zbt, Zbu, Zbv, Zbw, Zbx, Zby, Zbz, Zb0, Zb1, Zb2, decide_true, decide_false, Zb3, Zb4, Zb5, Zb6, Zb7, Zb8, Zb9, Zca, Zcb, Zcc, Zcd, beq_self_eq_true, cond_true, cond_false, if_false, if_true, reduceIte, reduceCtorEq, not_true_eq_false, not_false_eq_true, true_and, and_true, forall_const, false_and, and_false, implies_true, Zce, Zcf, Zcg, Zch, Zci]; try trivial)) (by (simp only [HLe_nil, HLe_cons]; try (simp (disch := first | assumption | exact Ne.symm (by assumption) | omega) only [↓ZD, ZU, ne_eq, Zaa, Zab, false_implies, Zac, Zad, Zae, Zaf, Zag, Zah, Zai, Zaj, Zak, Zal, Zam, Zan, Zao, Zap, Zaq, Zar, Zas, Zat, Zau, Zav, Zaw, Zax, Zay, Zaz, Za0, Za1, Za2, Za3, Za4, Za5, Za6, Za7, Za8, Za9, Zba, Zbb, Zbc, Zbd, Zbe, Zbf, Zbg, Zbh, Zbi, Zbj, Zbk, Zbl, Zbm, Zbn, Zbo, Zbp, Zbq, Zbr, Zbs, Zbt, Zbu, Zbv, Zbw, Zbx, Zby, Zbz, Zb0, Zb1, Zb2, decide_true, decide_false, Zb3, Zb4, Zb5, Zb6, Zb7, Zb8, Zb9, Zca, Zcb, Zcc, Zcd, beq_self_eq_true, cond_true, cond_false, if_false, if_true, reduceIte, reduceCtorEq, not_true_eq_false, not_false_eq_true, true_and, and_true, forall_const, false_and, and_false, implies_true, Zce, Zcf, Zcg, Zch, Zci]))) ?_
      generalize n = n0 at *
      clear hi hn1 hn2 hz hlt hd hz' i
      rintro ⟨i, n⟩ ⟨hi, hn1, hn2, hz⟩
      simp only at hi hn1 hn2 hz
      by_cases hlt : i < ats.length ∧ n < 1000
      · have hd : (decide ((i : Int) < (ats.length : Int)) && decide (n < 1000)) = true := by simp; omega
        have gx := getA hlt.1
        have hdx := depthA_mem gx
        have hc := i2 i _ gx (by omega)
        have hsb := size_bound (ats.getD i nilA).2.1
        obtain ⟨k', nm', a1', n1', c1', a2', n2', c2', hform⟩ := (r2 i _ gx).form
        rw [hform] at hc
        have hcl := h2 i _ gx
        rw [hform] at hcl
        obtain ⟨ba, oa, rfl, hla, hl1'⟩ := hcl.all
        have hla1 := hla 1 4 (by omega)
        simp (disch := first | assumption | exact Ne.symm (by assumption) | omega) only [hF1, hd, ↓ZD, ZU, ne_eq, Zaa, Zab, false_implies, Zac, Zad, Zae, Zaf, Zag, Zah, Zai, Zaj, Zak, Zal, Zam, Zan, Zao, Zap, Zaq, Zar, Zas, Zat, Zau, Zav, Zaw, Zax, Zay, Zaz, Za0, Za1, Za2, Za3, Za4, Za5, Za6, Za7, Za8, Za9, Zba, Zbb, Zbc, Zbd, Zbe, Zbf, Zbg, Zbh, Zbi, Zbj, Zbk, Zbl, Zbm, Zbn, Zbo, Zbp, Zbq, Zbr, Zbs, Zbt, Zbu, Zbv, Zbw, Zbx, Zby, Zbz, Zb0, Zb1, Zb2, decide_true, decide_false, Zb3, Zb4, Zb5, Zb6, Zb7, Zb8, Zb9, Zca, Zcb, Zcc, Zcd, beq_self_eq_true, cond_true, cond_false, if_false, if_true, reduceIte, reduceCtorEq, not_true_eq_false, not_false_eq_true, true_and, and_true, forall_const, false_and, and_false, implies_true, Zce, Zcf, Zcg, Zch, Zci]
        refine conj.of (by omega) ?_
        simp (disch := first | assumption | exact Ne.symm (by assumption) | omega) only [hF1, hd, Int.toNat_natCast, ↓hla1, ↓ZD, ZU, ne_eq, Zaa, Zab, false_implies, Zac, Zad, Zae, Zaf, Zag, Zah, Zai, Zaj, Zak, Zal, Zam, Zan, Zao, Zap, Zaq, Zar, Zas, Zat, Zau, Zav, Zaw, Zax, Zay, Zaz, Za0, Za1, Za2, Za3, Za4, Za5, Za6, Za7, Za8, Za9, Zba, Zbb, Zbc, Zbd, Zbe, Zbf, Zbg, Zbh, Zbi, Zbj, Zbk, Zbl, Zbm, Zbn, Zbo, Zbp, Zbq, Zbr, Zbs, Zbt, Zbu, Zbv, Zbw, Zbx, Zby, Zbz, Zb0, Zb1, Zb2, decide_true, decide_false, Zb3, Zb4, Zb5, Zb6, Zb7, Zb8, Zb9, Zca, Zcb, Zcc, Zcd, beq_self_eq_true, cond_true, cond_false, if_false, if_true, reduceIte, reduceCtorEq, not_true_eq_false, not_false_eq_true, true_and, and_true, forall_const, false_and, and_false, implies_true, Zce, Zcf, Zcg, Zch, Zci]
        refine CallE.pure hc ?_
        simp (disch := first | assumption | exact Ne.symm (by assumption) | omega) only [hF1, ↓ZD, ZU, ne_eq, Zaa, Zab, false_implies, Zac, Zad, Zae, Zaf, Zag, Zah, Zai, Zaj, Zak, Zal, Zam, Zan, Zao, Zap, Zaq, Zar, Zas, Zat, Zau, Zav, Zaw, Zax, Zay, Zaz, Za0, Za1, Za2, Za3, Za4, Za5, Za6, Za7, Za8, Za9, Zba, Zbb, Zbc, Zbd, Zbe, Zbf, Zbg, Zbh, Zbi, Zbj, Zbk, Zbl, Zbm, Zbn, Zbo, Zbp, Zbq, Zbr, Zbs, Zbt, Zbu, Zbv, Zbw, Zbx, Zby, Zbz, Zb0, Zb1, Zb2, decide_true, decide_false, Zb3, Zb4, Zb5, Zb6, Zb7, Zb8, Zb9, Zca, Zcb, Zcc, Zcd, beq_self_eq_true, cond_true, cond_false, if_false, if_true, reduceIte, reduceCtorEq, not_true_eq_false, not_false_eq_true, true_and, and_true, forall_const, false_and, and_false, implies_true, Zce, Zcf, Zcg, Zch, Zci]
        refine invK.on ((i + 1, n + size (ats.getD i nilA).2.1)) (⟨by simp only; omega, by simp only; omega, by simp only; omega, by simp only; rw [← szA_drop gx hlt.2, hz]⟩) (by omega) (by (simp only [Le_nil, Le_cons]; simp (disch := first | assumption | exact Ne.symm (by assumption) | omega) only [hF1, ↓ZD, ZU, ne_eq, Zaa, Zab, false_implies, Zac, Zad, Zae, Zaf, Zag, Zah, Zai, Zaj, Zak, Zal, Zam, Zan, Zao, Zap, Zaq, Zar, Zas, Zat, Zau, Zav, Zaw, Zax, Zay, Zaz, Za0, Za1, Za2, Za3, Za4, Za5, Za6, Za7, Za8, Za9, Zba, Zbb, Zbc, Zbd, Zbe, Zbf, Zbg, Zbh, Zbi, Zbj, Zbk, Zbl, Zbm, Zbn, Zbo, Zbp, Zbq, Zbr, Zbs, Zbt, Zbu, Zbv, Zbw, Zbx, Zby, Zbz, Zb0, Zb1, Zb2, decide_true, decide_false, Zb3, Zb4, Zb5, Zb6, Zb7, Zb8, Zb9, Zca, Zcb, Zcc, Zcd, beq_self_eq_true, cond_true, cond_false, if_false, if_true, reduceIte, reduceCtorEq, not_true_eq_false, not_false_eq_true, true_and, and_true, forall_const, false_and, and_false, implies_true, Zce, Zcf, Zcg, Zch, Zci]; try trivial)) (by (simp only [HLe_nil, HLe_cons]; try (simp (disch := first | assumption | exact Ne.symm (by assumption) | omega) only [hF1, ↓ZD, ZU, ne_eq, Zaa, Zab, false_implies, Zac, Zad, Zae, Zaf, Zag, Zah, Zai, Zaj, Zak, Zal, Zam, Zan, Zao, Zap, Zaq, Zar, Zas, Zat, Zau, Zav, Zaw, Zax, Zay, Zaz, Za0, Za1, Za2, Za3, Za4, Za5, Za6, Za7, Za8, Za9, Zba, Zbb, Zbc, Zbd, Zbe, Zbf, Zbg, Zbh, Zbi, Zbj, Zbk, Zbl, Zbm, Zbn, Zbo, Zbp, Zbq, Zbr, Zbs, Zbt, Zbu, Zbv, Zbw, Zbx, Zby, Zbz, Zb0, Zb1, Zb2, decide_true, decide_false, Zb3, Zb4, Zb5, Zb6, Zb7, Zb8, Zb9, Zca, Zcb, Zcc, Zcd, beq_self_eq_true, cond_true, cond_false, if_false, if_true, reduceIte, reduceCtorEq, not_true_eq_false, not_false_eq_true, true_and, and_true, forall_const, false_and, and_false, implies_true, Zce, Zcf, Zcg, Zch, Zci])))
      · have hd : (decide ((i : Int) < (ats.length : Int)) && decide (n < 1000)) = false := by simp; omega
        simp (disch := first | assumption | exact Ne.symm (by assumption) | omega) only [hF1, hd, ↓ZD, ZU, ne_eq, Zaa, Zab, false_implies, Zac, Zad, Zae, Zaf, Zag, Zah, Zai, Zaj, Zak, Zal, Zam, Zan, Zao, Zap, Zaq, Zar, Zas, Zat, Zau, Zav, Zaw, Zax, Zay, Zaz, Za0, Za1, Za2, Za3, Za4, Za5, Za6, Za7, Za8, Za9, Zba, Zbb, Zbc, Zbd, Zbe, Zbf, Zbg, Zbh, Zbi, Zbj, Zbk, Zbl, Zbm, Zbn, Zbo, Zbp, Zbq, Zbr, Zbs, Zbt, Zbu, Zbv, Zbw, Zbx, Zby, Zbz, Zb0, Zb1, Zb2, decide_true, decide_false, Zb3, Zb4, Zb5, Zb6, Zb7, Zb8, Zb9, Zca, Zcb, Zcc, Zcd, beq_self_eq_true, cond_true, cond_false, if_false, if_true, reduceIte, reduceCtorEq, not_true_eq_false, not_false_eq_true, true_and, and_true, forall_const, false_and, and_false, implies_true, Zce, Zcf, Zcg, Zch, Zci]
        rw [← hz]
        by_cases hs : n < 1000
        · rw [List.drop_eq_nil_of_le (by omega)]; rfl
        · rw [szA_stop hs]
def fit (a b : Ty) : Bool := few a 0 && few b 0 && decide (size a < 300) && decide (size b < 300) && (chk a == 0) && (chk b == 0)
theorem fit_pure (F : Base) {ca cb : List Value} {a b : Ty} (ha : RepT F ca a) (hb : RepT F cb b) : PureV Try.prog F 15 #[.agg ca.toArray, .agg cb.toArray] (.bool (fit a b)) := by
  have f1 := few_pure F ha 0 (by omega) (by omega)
  have f2 := few_pure F hb 0 (by omega) (by omega)
  have da : few a 0 = true → depth a ≤ 1000000 := fun h => by have := few_depth a 0 h; omega
  have db : few b 0 = true → depth b ≤ 1000000 := fun h => by have := few_depth b 0 h; omega
  have s1 := fun h => size_pure F ha (da h)
  have s2 := fun h => size_pure F hb (db h)
  have k1 := fun h => rcheck_pure F ha (da h)
  have k2 := fun h => rcheck_pure F hb (db h)
  obtain ⟨_, _, _, _, _, _, _, _, rfl⟩ := ha.form
  obtain ⟨_, _, _, _, _, _, _, _, rfl⟩ := hb.form
  refine pureV_of_svc mixed Try.func15 low15 (Nat.le_of_ble_eq_true rfl) (fun w0 => ?_)
  simp (disch := first | assumption | exact Ne.symm (by assumption) | omega) only [fu15, ↓ZD, ZU, ne_eq, Zaa, Zab, false_implies, Zac, Zad, Zae, Zaf, Zag, Zah, Zai, Zaj, Zak, Zal, Zam, Zan, Zao, Zap, Zaq, Zar, Zas, Zat, Zau, Zav, Zaw, Zax, Zay, Zaz, Za0, Za1, Za2, Za3, Za4, Za5, Za6, Za7, Za8, Za9, Zba, Zbb, Zbc, Zbd, Zbe, Zbf, Zbg, Zbh, Zbi, Zbj, Zbk, Zbl, Zbm, Zbn, Zbo, Zbp, Zbq, Zbr, Zbs, Zbt, Zbu, Zbv, Zbw, Zbx, Zby, Zbz, Zb0, Zb1, Zb2, decide_true, decide_false, Zb3, Zb4, Zb5, Zb6, Zb7, Zb8, Zb9, Zca, Zcb, Zcc, Zcd, beq_self_eq_true, cond_true, cond_false, if_false, if_true, reduceIte, reduceCtorEq, not_true_eq_false, not_false_eq_true, true_and, and_true, forall_const, false_and, and_false, implies_true, Zce, Zcf, Zcg, Zch, Zci]
  refine NewB.of fun b1 hb1 hF1 => ?_
  simp (disch := first | assumption | exact Ne.symm (by assumption) | omega) only [hF1, ↓ZD, ZU, ne_eq, Zaa, Zab, false_implies, Zac, Zad, Zae, Zaf, Zag, Zah, Zai, Zaj, Zak, Zal, Zam, Zan, Zao, Zap, Zaq, Zar, Zas, Zat, Zau, Zav, Zaw, Zax, Zay, Zaz, Za0, Za1, Za2, Za3, Za4, Za5, Za6, Za7, Za8, Za9, Zba, Zbb, Zbc, Zbd, Zbe, Zbf, Zbg, Zbh, Zbi, Zbj, Zbk, Zbl, Zbm, Zbn, Zbo, Zbp, Zbq, Zbr, Zbs, Zbt, Zbu, Zbv, Zbw, Zbx, Zby, Zbz, Zb0, Zb1, Zb2, decide_true, decide_false, Zb3, Zb4, Zb5, Zb6, Zb7, Zb8, Zb9, Zca, Zcb, Zcc, Zcd, beq_self_eq_true, cond_true, cond_false, if_false, if_true, reduceIte, reduceCtorEq, not_true_eq_false, not_false_eq_true, true_and, and_true, forall_const, false_and, and_false, implies_true, Zce, Zcf, Zcg, Zch, Zci]
  refine NewB.of fun b2 hb2 hF2 => ?_
  simp only [List.forall_mem_cons, List.not_mem_nil] at hb2
  simp (disch := first | assumption | exact Ne.symm (by assumption) | omega) only [hF1, hF2, ↓ZD, ZU, ne_eq, Zaa, Zab, false_implies, Zac, Zad, Zae, Zaf, Zag, Zah, Zai, Zaj, Zak, Zal, Zam, Zan, Zao, Zap, Zaq, Zar, Zas, Zat, Zau, Zav, Zaw, Zax, Zay, Zaz, Za0, Za1, Za2, Za3, Za4, Za5, Za6, Za7, Za8, Za9, Zba, Zbb, Zbc, Zbd, Zbe, Zbf, Zbg, Zbh, Zbi, Zbj, Zbk, Zbl, Zbm, Zbn, Zbo, Zbp, Zbq, Zbr, Zbs, Zbt, Zbu, Zbv, Zbw, Zbx, Zby, Zbz, Zb0, Zb1, Zb2, decide_true, decide_false, Zb3, Zb4, Zb5, Zb6, Zb7, Zb8, Zb9, Zca, Zcb, Zcc, Zcd, beq_self_eq_true, cond_true, cond_false, if_false, if_true, reduceIte, reduceCtorEq, not_true_eq_false, not_false_eq_true, true_and, and_true, forall_const, false_and, and_false, implies_true, Zce, Zcf, Zcg, Zch, Zci]
  refine CallE.pure f1 ?_
  simp (disch := first | assumption | exact Ne.symm (by assumption) | omega) only [hF1, hF2, ↓ZD, ZU, ne_eq, Zaa, Zab, false_implies, Zac, Zad, Zae, Zaf, Zag, Zah, Zai, Zaj, Zak, Zal, Zam, Zan, Zao, Zap, Zaq, Zar, Zas, Zat, Zau, Zav, Zaw, Zax, Zay, Zaz, Za0, Za1, Za2, Za3, Za4, Za5, Za6, Za7, Za8, Za9, Zba, Zbb, Zbc, Zbd, Zbe, Zbf, Zbg, Zbh, Zbi, Zbj, Zbk, Zbl, Zbm, Zbn, Zbo, Zbp, Zbq, Zbr, Zbs, Zbt, Zbu, Zbv, Zbw, Zbx, Zby, Zbz, Zb0, Zb1, Zb2, decide_true, decide_false, Zb3, Zb4, Zb5, Zb6, Zb7, Zb8, Zb9, Zca, Zcb, Zcc, Zcd, beq_self_eq_true, cond_true, cond_false, if_false, if_true, reduceIte, reduceCtorEq, not_true_eq_false, not_false_eq_true, true_and, and_true, forall_const, false_and, and_false, implies_true, Zce, Zcf, Zcg, Zch, Zci]
  refine CallE.pure f2 ?_
  simp (disch := first | assumption | exact Ne.symm (by assumption) | omega) only [hF1, hF2, ↓ZD, ZU, ne_eq, Zaa, Zab, false_implies, Zac, Zad, Zae, Zaf, Zag, Zah, Zai, Zaj, Zak, Zal, Zam, Zan, Zao, Zap, Zaq, Zar, Zas, Zat, Zau, Zav, Zaw, Zax, Zay, Zaz, Za0, Za1, Za2, Za3, Za4, Za5, Za6, Za7, Za8, Za9, Zba, Zbb, Zbc, Zbd, Zbe, Zbf, Zbg, Zbh, Zbi, Zbj, Zbk, Zbl, Zbm, Zbn, Zbo, Zbp, Zbq, Zbr, Zbs, Zbt, Zbu, Zbv, Zbw, Zbx, Zby, Zbz, Zb0, Zb1, Zb2, decide_true, decide_false, Zb3, Zb4, Zb5, Zb6, Zb7, Zb8, Zb9, Zca, Zcb, Zcc, Zcd, beq_self_eq_true, cond_true, cond_false, if_false, if_true, reduceIte, reduceCtorEq, not_true_eq_false, not_false_eq_true, true_and, and_true, forall_const, false_and, and_false, implies_true, Zce, Zcf, Zcg, Zch, Zci]
  refine CallQ.of _ (fun h => (s1 (by simp only [Bool.and_eq_true] at h; exact h.1)).up) ?_
  simp (disch := first | assumption | exact Ne.symm (by assumption) | omega) only [hF1, hF2, ↓ZD, ZU, ne_eq, Zaa, Zab, false_implies, Zac, Zad, Zae, Zaf, Zag, Zah, Zai, Zaj, Zak, Zal, Zam, Zan, Zao, Zap, Zaq, Zar, Zas, Zat, Zau, Zav, Zaw, Zax, Zay, Zaz, Za0, Za1, Za2, Za3, Za4, Za5, Za6, Za7, Za8, Za9, Zba, Zbb, Zbc, Zbd, Zbe, Zbf, Zbg, Zbh, Zbi, Zbj, Zbk, Zbl, Zbm, Zbn, Zbo, Zbp, Zbq, Zbr, Zbs, Zbt, Zbu, Zbv, Zbw, Zbx, Zby, Zbz, Zb0, Zb1, Zb2, decide_true, decide_false, Zb3, Zb4, Zb5, Zb6, Zb7, Zb8, Zb9, Zca, Zcb, Zcc, Zcd, beq_self_eq_true, cond_true, cond_false, if_false, if_true, reduceIte, reduceCtorEq, not_true_eq_false, not_false_eq_true, true_and, and_true, forall_const, false_and, and_false, implies_true, Zce, Zcf, Zcg, Zch, Zci]
  refine CallQ.of _ (fun h => (s2 (by simp only [Bool.and_eq_true] at h; exact h.1.2)).up) ?_
  simp (disch := first | assumption | exact Ne.symm (by assumption) | omega) only [hF1, hF2, ↓ZD, ZU, ne_eq, Zaa, Zab, false_implies, Zac, Zad, Zae, Zaf, Zag, Zah, Zai, Zaj, Zak, Zal, Zam, Zan, Zao, Zap, Zaq, Zar, Zas, Zat, Zau, Zav, Zaw, Zax, Zay, Zaz, Za0, Za1, Za2, Za3, Za4, Za5, Za6, Za7, Za8, Za9, Zba, Zbb, Zbc, Zbd, Zbe, Zbf, Zbg, Zbh, Zbi, Zbj, Zbk, Zbl, Zbm, Zbn, Zbo, Zbp, Zbq, Zbr, Zbs, Zbt, Zbu, Zbv, Zbw, Zbx, Zby, Zbz, Zb0, Zb1, Zb2, decide_true, decide_false, Zb3, Zb4, Zb5, Zb6, Zb7, Zb8, Zb9, Zca, Zcb, Zcc, Zcd, beq_self_eq_true, cond_true, cond_false, if_false, if_true, reduceIte, reduceCtorEq, not_true_eq_false, not_false_eq_true, true_and, and_true, forall_const, false_and, and_false, implies_true, Zce, Zcf, Zcg, Zch, Zci]
  refine CallQ.of _ (fun h => (k1 (by simp only [Bool.and_eq_true] at h; exact h.1.1.1)).up) ?_
  simp (disch := first | assumption | exact Ne.symm (by assumption) | omega) only [hF1, hF2, ↓ZD, ZU, ne_eq, Zaa, Zab, false_implies, Zac, Zad, Zae, Zaf, Zag, Zah, Zai, Zaj, Zak, Zal, Zam, Zan, Zao, Zap, Zaq, Zar, Zas, Zat, Zau, Zav, Zaw, Zax, Zay, Zaz, Za0, Za1, Za2, Za3, Za4, Za5, Za6, Za7, Za8, Za9, Zba, Zbb, Zbc, Zbd, Zbe, Zbf, Zbg, Zbh, Zbi, Zbj, Zbk, Zbl, Zbm, Zbn, Zbo, Zbp, Zbq, Zbr, Zbs, Zbt, Zbu, Zbv, Zbw, Zbx, Zby, Zbz, Zb0, Zb1, Zb2, decide_true, decide_false, Zb3, Zb4, Zb5, Zb6, Zb7, Zb8, Zb9, Zca, Zcb, Zcc, Zcd, beq_self_eq_true, cond_true, cond_false, if_false, if_true, reduceIte, reduceCtorEq, not_true_eq_false, not_false_eq_true, true_and, and_true, forall_const, false_and, and_false, implies_true, Zce, Zcf, Zcg, Zch, Zci]
  refine CallQ.of _ (fun h => (k2 (by simp only [Bool.and_eq_true] at h; exact h.1.1.1.2)).up) ?_
  simp (disch := first | assumption | exact Ne.symm (by assumption) | omega) only [hF1, hF2, ↓ZD, ZU, ne_eq, Zaa, Zab, false_implies, Zac, Zad, Zae, Zaf, Zag, Zah, Zai, Zaj, Zak, Zal, Zam, Zan, Zao, Zap, Zaq, Zar, Zas, Zat, Zau, Zav, Zaw, Zax, Zay, Zaz, Za0, Za1, Za2, Za3, Za4, Za5, Za6, Za7, Za8, Za9, Zba, Zbb, Zbc, Zbd, Zbe, Zbf, Zbg, Zbh, Zbi, Zbj, Zbk, Zbl, Zbm, Zbn, Zbo, Zbp, Zbq, Zbr, Zbs, Zbt, Zbu, Zbv, Zbw, Zbx, Zby, Zbz, Zb0, Zb1, Zb2, decide_true, decide_false, Zb3, Zb4, Zb5, Zb6, Zb7, Zb8, Zb9, Zca, Zcb, Zcc, Zcd, beq_self_eq_true, cond_true, cond_false, if_false, if_true, reduceIte, reduceCtorEq, not_true_eq_false, not_false_eq_true, true_and, and_true, forall_const, false_and, and_false, implies_true, Zce, Zcf, Zcg, Zch, Zci]
  rfl
/-! ### Attributes by name -/
theorem idx23 (F : Base) (a : Option Addr) (n c : Nat) (g : Nat → List Value) (fv : Value) (p : Nat → Bool) (r : Int) (hr : isFst p n r) (hn : n ≤ 9223372036854775807) (h1 : ∀ i, i < n → Cl F a 6 i (g i))
    (hp : ∀ i, i < n → PureF Try.prog F fv [.agg (g i).toArray] (.bool (p i))) : PureV Try.prog F 23 #[.slice a n c, fv] (.int .i64 r) := by
  refine pureV_of_svc mixed Try.func23 low23 (Nat.le_of_ble_eq_true rfl) (fun w0 => ?_)
  simp (disch := first | assumption | exact Ne.symm (by assumption) | omega) only [fu23, ↓ZD, ZU, ne_eq, Zaa, Zab, false_implies, Zac, Zad, Zae, Zaf, Zag, Zah, Zai, Zaj, Zak, Zal, Zam, Zan, Zao, Zap, Zaq, Zar, Zas, Zat, Zau, Zav, Zaw, Zax, Zay, Zaz, Za0, Za1, Za2, Za3, Za4, Za5, Za6, Za7, Za8, Za9, Zba, Zbb, Zbc, Zbd, Zbe, Zbf, Zbg, Zbh, Zbi, Zbj, Zbk, Zbl, Zbm, Zbn, Zbo, Zbp, Zbq, Zbr, Zbs, Zbt, Zbu, Zbv, Zbw, Zbx, Zby, Zbz, Zb0, Zb1, Zb2, decide_true, decide_false, Zb3, Zb4, Zb5, Zb6, Zb7, Zb8, Zb9, Zca, Zcb, Zcc, Zcd, beq_self_eq_true, cond_true, cond_false, if_false, if_true, reduceIte, reduceCtorEq, not_true_eq_false, not_false_eq_true, true_and, and_true, forall_const, false_and, and_false, implies_true, Zce, Zcf, Zcg, Zch, Zci]
  refine LoopL.inv (α := Nat) (fun i => i ≤ n ∧ ∀ j, j < i → p j = false)
    (fun i => [(0, some (.slice a n c)), (1, some fv), (7, some (.int .i64 n)), (8, some (.int .i64 i))]) (fun i => []) (fun i => n - i) 0 ⟨Nat.zero_le _, fun j h => absurd h (by omega)⟩ (by (simp only [Le_nil, Le_cons]; simp (disch := first | assumption | exact Ne.symm (by assumption) | omega) only [↓ZD, ZU, ne_eq, Zaa, Zab, false_implies, Zac, Zad, Zae, Zaf, Zag, Zah, Zai, Zaj, Zak, Zal, Zam, Zan, Zao, Zap, Zaq, Zar, Zas, Zat, Zau, Zav, Zaw, Zax, Zay, Zaz, Za0, Za1, Za2, Za3, Za4, Za5, Za6, Za7, Za8, Za9, Zba, Zbb, Zbc, Zbd, Zbe, Zbf, Zbg, Zbh, Zbi, Zbj, Zbk, Zbl, Zbm, Zbn, Zbo, Zbp, Zbq, Zbr, Zbs, Zbt, Zbu, Zbv, Zbw, Zbx, Zby, Zbz, Zb0, Zb1, Zb2, decide_true, decide_false, Zb3, Zb4, Zb5, Zb6, Zb7, Zb8, Zb9, Zca, Zcb, Zcc, Zcd, beq_self_eq_true, cond_true, cond_false, if_false, if_true, reduceIte, reduceCtorEq, not_true_eq_false, not_false_eq_true, true_and, and_true, forall_const, false_and, and_false, implies_true, Zce, Zcf, Zcg, Zch, Zci]; try trivial)) (by (simp only [HLe_nil, HLe_cons]; try (simp (disch := first | assumption | exact Ne.symm (by assumption) | omega) only [↓ZD, ZU, ne_eq, Zaa, Zab, false_implies, Zac, Zad, Zae, Zaf, Zag, Zah, Zai, Zaj, Zak, Zal, Zam, Zan, Zao, Zap, Zaq, Zar, Zas, Zat, Zau, Zav, Zaw, Zax, Zay, Zaz, Za0, Za1, Za2, Za3, Za4, Za5, Za6, Za7, Za8, Za9, Zba, Zbb, Zbc, Zbd, Zbe, Zbf, Zbg, Zbh, Zbi, Zbj, Zbk, Zbl, Zbm, Zbn, Zbo, Zbp, Zbq, Zbr, Zbs, Zbt, Zbu, Zbv, Zbw, Zbx, Zby, Zbz, Zb0, Zb1, Zb2, decide_true, decide_false, Zb3, Zb4, Zb5, Zb6, Zb7, Zb8, Zb9, Zca, Zcb, Zcc, Zcd, beq_self_eq_true, cond_true, cond_false, if_false, if_true, reduceIte, reduceCtorEq, not_true_eq_false, not_false_eq_true, true_and, and_true, forall_const, false_and, and_false, implies_true, Zce, Zcf, Zcg, Zch, Zci]))) ?_
  rintro i ⟨hi, ha⟩
  by_cases hlt : i < n
  · have hd : decide ((i : Int) < (n : Int)) = true := by simp; omega
    obtain ⟨ba, oa, rfl, hla⟩ := (h1 i hlt).ldn
    simp (disch := first | assumption | exact Ne.symm (by assumption) | omega) only [hd, ↓ZD, ZU, ne_eq, Zaa, Zab, false_implies, Zac, Zad, Zae, Zaf, Zag, Zah, Zai, Zaj, Zak, Zal, Zam, Zan, Zao, Zap, Zaq, Zar, Zas, Zat, Zau, Zav, Zaw, Zax, Zay, Zaz, Za0, Za1, Za2, Za3, Za4, Za5, Za6, Za7, Za8, Za9, Zba, Zbb, Zbc, Zbd, Zbe, Zbf, Zbg, Zbh, Zbi, Zbj, Zbk, Zbl, Zbm, Zbn, Zbo, Zbp, Zbq, Zbr, Zbs, Zbt, Zbu, Zbv, Zbw, Zbx, Zby, Zbz, Zb0, Zb1, Zb2, decide_true, decide_false, Zb3, Zb4, Zb5, Zb6, Zb7, Zb8, Zb9, Zca, Zcb, Zcc, Zcd, beq_self_eq_true, cond_true, cond_false, if_false, if_true, reduceIte, reduceCtorEq, not_true_eq_false, not_false_eq_true, true_and, and_true, forall_const, false_and, and_false, implies_true, Zce, Zcf, Zcg, Zch, Zci]
    refine conj.of (by omega) ?_
    simp (disch := first | assumption | exact Ne.symm (by assumption) | omega) only [hd, Int.toNat_natCast, ↓hla, ↓ZD, ZU, ne_eq, Zaa, Zab, false_implies, Zac, Zad, Zae, Zaf, Zag, Zah, Zai, Zaj, Zak, Zal, Zam, Zan, Zao, Zap, Zaq, Zar, Zas, Zat, Zau, Zav, Zaw, Zax, Zay, Zaz, Za0, Za1, Za2, Za3, Za4, Za5, Za6, Za7, Za8, Za9, Zba, Zbb, Zbc, Zbd, Zbe, Zbf, Zbg, Zbh, Zbi, Zbj, Zbk, Zbl, Zbm, Zbn, Zbo, Zbp, Zbq, Zbr, Zbs, Zbt, Zbu, Zbv, Zbw, Zbx, Zby, Zbz, Zb0, Zb1, Zb2, decide_true, decide_false, Zb3, Zb4, Zb5, Zb6, Zb7, Zb8, Zb9, Zca, Zcb, Zcc, Zcd, beq_self_eq_true, cond_true, cond_false, if_false, if_true, reduceIte, reduceCtorEq, not_true_eq_false, not_false_eq_true, true_and, and_true, forall_const, false_and, and_false, implies_true, Zce, Zcf, Zcg, Zch, Zci]
    refine CallEF.pure (hp i hlt) ?_
    cases hpp : p i with
    | true =>
      have : r = i := by
        rcases hr with ⟨k, h1, h2, h3, h4⟩ | ⟨h1, h2⟩
        · have : k = i := by
            rcases Nat.lt_trichotomy k i with h | h | h
            · rw [ha k h] at h3; cases h3
            · exact h
            · rw [h4 i h] at hpp; cases hpp
          rw [h1, this]
        · rw [h2 i hlt] at hpp; cases hpp
      simp (disch := first | assumption | exact Ne.symm (by assumption) | omega) only [this, ↓ZD, ZU, ne_eq, Zaa, Zab, false_implies, Zac, Zad, Zae, Zaf, Zag, Zah, Zai, Zaj, Zak, Zal, Zam, Zan, Zao, Zap, Zaq, Zar, Zas, Zat, Zau, Zav, Zaw, Zax, Zay, Zaz, Za0, Za1, Za2, Za3, Za4, Za5, Za6, Za7, Za8, Za9, Zba, Zbb, Zbc, Zbd, Zbe, Zbf, Zbg, Zbh, Zbi, Zbj, Zbk, Zbl, Zbm, Zbn, Zbo, Zbp, Zbq, Zbr, Zbs, Zbt, Zbu, Zbv, Zbw, Zbx, Zby, Zbz, Zb0, Zb1, Zb2, decide_true, decide_false, Zb3, Zb4, Zb5, Zb6, Zb7, Zb8, Zb9, Zca, Zcb, Zcc, Zcd, beq_self_eq_true, cond_true, cond_false, if_false, if_true, reduceIte, reduceCtorEq, not_true_eq_false, not_false_eq_true, true_and, and_true, forall_const, false_and, and_false, implies_true, Zce, Zcf, Zcg, Zch, Zci]
    | false =>
      simp (disch := first | assumption | exact Ne.symm (by assumption) | omega) only [↓ZD, ZU, ne_eq, Zaa, Zab, false_implies, Zac, Zad, Zae, Zaf, Zag, Zah, Zai, Zaj, Zak, Zal, Zam, Zan, Zao, Zap, Zaq, Zar, Zas, Zat, Zau, Zav, Zaw, Zax, Zay, Zaz, Za0, Za1, Za2, Za3, Za4, Za5, Za6, Za7, Za8, Za9, Zba, Zbb, Zbc, Zbd, Zbe, Zbf, Zbg, Zbh, Zbi, Zbj, Zbk, Zbl, Zbm, Zbn, Zbo, Zbp, Zbq, Zbr, Zbs, Zbt, Zbu, Zbv, Zbw, Zbx, Zby, Zbz, Zb0, Zb1, Zb2, decide_true, decide_false, Zb3, Zb4, Zb5, Zb6, Zb7, Zb8, Zb9, Zca, Zcb, Zcc, Zcd, beq_self_eq_true, cond_true, cond_false, if_false, if_true, reduceIte, reduceCtorEq, not_true_eq_false, not_false_eq_true, true_and, and_true, forall_const, false_and, and_false, implies_true, Zce, Zcf, Zcg, Zch, Zci]
      refine invK.on (i + 1) (⟨by omega, fun j hj => by
        by_cases e : j = i
        · rw [e]; exact hpp
        · exact ha j (by omega)⟩) (by omega) (by (simp only [Le_nil, Le_cons]; simp (disch := first | assumption | exact Ne.symm (by assumption) | omega) only [↓ZD, ZU, ne_eq, Zaa, Zab, false_implies, Zac, Zad, Zae, Zaf, Zag, Zah, Zai, Zaj, Zak, Zal, Zam, Zan, Zao, Zap, Zaq, Zar, Zas, Zat, Zau, Zav, Zaw, Zax, Zay, Zaz, Za0, Za1, Za2, Za3, Za4, Za5, Za6, Za7, Za8, Za9, Zba, Zbb, Zbc, Zbd, Zbe, Zbf, Zbg, Zbh, Zbi, Zbj, Zbk, Zbl, Zbm, Zbn, Zbo, Zbp, Zbq, Zbr, Zbs, Zbt, Zbu, Zbv, Zbw, Zbx, Zby, Zbz, Zb0, Zb1, Zb2, decide_true, decide_false, Zb3, Zb4, Zb5, Zb6, Zb7, Zb8, Zb9, Zca, Zcb, Zcc, Zcd, beq_self_eq_true, cond_true, cond_false, if_false, if_true, reduceIte, reduceCtorEq, not_true_eq_false, not_false_eq_true, true_and, and_true, forall_const, false_and, and_false, implies_true, Zce, Zcf, Zcg, Zch, Zci]; try trivial)) (by (simp only [HLe_nil, HLe_cons]; try (simp (disch := first | assumption | exact Ne.symm (by assumption) | omega) only [↓ZD, ZU, ne_eq, Zaa, Zab, false_implies, Zac, Zad, Zae, Zaf, Zag, Zah, Zai, Zaj, Zak, Zal, Zam, Zan, Zao, Zap, Zaq, Zar, Zas, Zat, Zau, Zav, Zaw, Zax, Zay, Zaz, Za0, Za1, Za2, Za3, Za4, Za5, Za6, Za7, Za8, Za9, Zba, Zbb, Zbc, Zbd, Zbe, Zbf, Zbg, Zbh, Zbi, Zbj, Zbk, Zbl, Zbm, Zbn, Zbo, Zbp, Zbq, Zbr, Zbs, Zbt, Zbu, Zbv, Zbw, Zbx, Zby, Zbz, Zb0, Zb1, Zb2, decide_true, decide_false, Zb3, Zb4, Zb5, Zb6, Zb7, Zb8, Zb9, Zca, Zcb, Zcc, Zcd, beq_self_eq_true, cond_true, cond_false, if_false, if_true, reduceIte, reduceCtorEq, not_true_eq_false, not_false_eq_true, true_and, and_true, forall_const, false_and, and_false, implies_true, Zce, Zcf, Zcg, Zch, Zci])))
  · have hd : decide ((i : Int) < (n : Int)) = false := by simp; omega
    have : r = -1 := by
      rcases hr with ⟨k, h1, h2, h3, h4⟩ | ⟨h1, h2⟩
      · rw [ha k (by omega)] at h3; cases h3
      · exact h1
    simp (disch := first | assumption | exact Ne.symm (by assumption) | omega) only [hd, this, ↓ZD, ZU, ne_eq, Zaa, Zab, false_implies, Zac, Zad, Zae, Zaf, Zag, Zah, Zai, Zaj, Zak, Zal, Zam, Zan, Zao, Zap, Zaq, Zar, Zas, Zat, Zau, Zav, Zaw, Zax, Zay, Zaz, Za0, Za1, Za2, Za3, Za4, Za5, Za6, Za7, Za8, Za9, Zba, Zbb, Zbc, Zbd, Zbe, Zbf, Zbg, Zbh, Zbi, Zbj, Zbk, Zbl, Zbm, Zbn, Zbo, Zbp, Zbq, Zbr, Zbs, Zbt, Zbu, Zbv, Zbw, Zbx, Zby, Zbz, Zb0, Zb1, Zb2, decide_true, decide_false, Zb3, Zb4, Zb5, Zb6, Zb7, Zb8, Zb9, Zca, Zcb, Zcc, Zcd, beq_self_eq_true, cond_true, cond_false, if_false, if_true, reduceIte, reduceCtorEq, not_true_eq_false, not_false_eq_true, true_and, and_true, forall_const, false_and, and_false, implies_true, Zce, Zcf, Zcg, Zch, Zci]
theorem f24_pure (F : Base) (b : Nat) (nm : List UInt8) (T : Nat) (hb : F b = some (.cells #[.string (bs nm)] T (0, 0))) (x : At) (cx : List Value) (tx : Ty) (hx : RepT F cx tx) :
    PureV Try.prog F 24 #[.agg (.string (bs x.1) :: (cx ++ [.bool x.2.2])).toArray, .pointer (some ⟨b, 0, none⟩)] (.bool (x.1 == nm)) := by
  obtain ⟨_, _, _, _, _, _, _, _, rfl⟩ := hx.form
  simp only [List.cons_append, List.nil_append]
  refine pureV_of_svc mixed Try.func24 low24 (Nat.le_of_ble_eq_true rfl) (fun w0 => ?_)
  simp (disch := first | assumption | exact Ne.symm (by assumption) | omega) only [fu24, ↓ZD, ZU, ne_eq, Zaa, Zab, false_implies, Zac, Zad, Zae, Zaf, Zag, Zah, Zai, Zaj, Zak, Zal, Zam, Zan, Zao, Zap, Zaq, Zar, Zas, Zat, Zau, Zav, Zaw, Zax, Zay, Zaz, Za0, Za1, Za2, Za3, Za4, Za5, Za6, Za7, Za8, Za9, Zba, Zbb, Zbc, Zbd, Zbe, Zbf, Zbg, Zbh, Zbi, Zbj, Zbk, Zbl, Zbm, Zbn, Zbo, Zbp, Zbq, Zbr, Zbs, Zbt, Zbu, Zbv, Zbw, Zbx, Zby, Zbz, Zb0, Zb1, Zb2, decide_true, decide_false, Zb3, Zb4, Zb5, Zb6, Zb7, Zb8, Zb9, Zca, Zcb, Zcc, Zcd, beq_self_eq_true, cond_true, cond_false, if_false, if_true, reduceIte, reduceCtorEq, not_true_eq_false, not_false_eq_true, true_and, and_true, forall_const, false_and, and_false, implies_true, Zce, Zcf, Zcg, Zch, Zci]
  refine NewB.of fun b1 hb1 hF1 => ?_
  simp (disch := first | assumption | exact Ne.symm (by assumption) | omega) only [hF1, hb, ↓ZD, ZU, ne_eq, Zaa, Zab, false_implies, Zac, Zad, Zae, Zaf, Zag, Zah, Zai, Zaj, Zak, Zal, Zam, Zan, Zao, Zap, Zaq, Zar, Zas, Zat, Zau, Zav, Zaw, Zax, Zay, Zaz, Za0, Za1, Za2, Za3, Za4, Za5, Za6, Za7, Za8, Za9, Zba, Zbb, Zbc, Zbd, Zbe, Zbf, Zbg, Zbh, Zbi, Zbj, Zbk, Zbl, Zbm, Zbn, Zbo, Zbp, Zbq, Zbr, Zbs, Zbt, Zbu, Zbv, Zbw, Zbx, Zby, Zbz, Zb0, Zb1, Zb2, decide_true, decide_false, Zb3, Zb4, Zb5, Zb6, Zb7, Zb8, Zb9, Zca, Zcb, Zcc, Zcd, beq_self_eq_true, cond_true, cond_false, if_false, if_true, reduceIte, reduceCtorEq, not_true_eq_false, not_false_eq_true, true_and, and_true, forall_const, false_and, and_false, implies_true, Zce, Zcf, Zcg, Zch, Zci]
def nmA (l : List At) (nm : List UInt8) (i : Nat) : Bool := (l.getD i nilA).1 == nm
theorem rattr_pure (F : Base) {a : Option Addr} {c : Nat} {l : List At} {g : Nat → List Value} (h : HasA F a l g) (hl : l.length ≤ 9223372036854775807) (nm : List UInt8) (r : Int) (hr : isFst (nmA l nm) l.length r) :
    PureV Try.prog F 12 #[.slice a l.length c, .string (bs nm)] (.int .i64 r) := by
  refine pureV_of_svc mixed Try.func12 low12 (Nat.le_of_ble_eq_true rfl) (fun w0 => ?_)
  simp (disch := first | assumption | exact Ne.symm (by assumption) | omega) only [fu12, ↓ZD, ZU, ne_eq, Zaa, Zab, false_implies, Zac, Zad, Zae, Zaf, Zag, Zah, Zai, Zaj, Zak, Zal, Zam, Zan, Zao, Zap, Zaq, Zar, Zas, Zat, Zau, Zav, Zaw, Zax, Zay, Zaz, Za0, Za1, Za2, Za3, Za4, Za5, Za6, Za7, Za8, Za9, Zba, Zbb, Zbc, Zbd, Zbe, Zbf, Zbg, Zbh, Zbi, Zbj, Zbk, Zbl, Zbm, Zbn, Zbo, Zbp, Zbq, Zbr, Zbs, Zbt, Zbu, Zbv, Zbw, Zbx, Zby, Zbz, Zb0, Zb1, Zb2, decide_true, decide_false, Zb3, Zb4, Zb5, Zb6, Zb7, Zb8, Zb9, Zca, Zcb, Zcc, Zcd, beq_self_eq_true, cond_true, cond_false, if_false, if_true, reduceIte, reduceCtorEq, not_true_eq_false, not_false_eq_true, true_and, and_true, forall_const, false_and, and_false, implies_true, Zce, Zcf, Zcg, Zch, Zci]
  refine LoopL.inv (α := Nat) (fun i => i ≤ l.length ∧ ∀ j, j < i → nmA l nm j = false)
    (fun i => [(0, some (.slice a l.length c)), (1, some (.string (bs nm))), (5, some (.int .i64 i))]) (fun i => []) (fun i => l.length - i) 0 ⟨Nat.zero_le _, fun j h => absurd h (by omega)⟩ (by (simp only [Le_nil, Le_cons]; simp (disch := first | assumption | exact Ne.symm (by assumption) | omega) only [↓ZD, ZU, ne_eq, Zaa, Zab, false_implies, Zac, Zad, Zae, Zaf, Zag, Zah, Zai, Zaj, Zak, Zal, Zam, Zan, Zao, Zap, Zaq, Zar, Zas, Zat, Zau, Zav, Zaw, Zax, Zay, Zaz, Za0, Za1, Za2, Za3, Za4, Za5, Za6, Za7, Za8, Za9, Zba, Zbb, Zbc, Zbd, Zbe, Zbf, Zbg, Zbh, Zbi, Zbj, Zbk, Zbl, Zbm, Zbn, Zbo, Zbp, Zbq, Zbr, Zbs, Zbt, Zbu, Zbv, Zbw, Zbx, Zby, Zbz, Zb0, Zb1, Zb2, decide_true, decide_false, Zb3, Zb4, Zb5, Zb6, Zb7, Zb8, Zb9, Zca, Zcb, Zcc, Zcd, beq_self_eq_true, cond_true, cond_false, if_false, if_true, reduceIte, reduceCtorEq, not_true_eq_false, not_false_eq_true, true_and, and_true, forall_const, false_and, and_false, implies_true, Zce, Zcf, Zcg, Zch, Zci]; try trivial)) (by (simp only [HLe_nil, HLe_cons]; try (simp (disch := first | assumption | exact Ne.symm (by assumption) | omega) only [↓ZD, ZU, ne_eq, Zaa, Zab, false_implies, Zac, Zad, Zae, Zaf, Zag, Zah, Zai, Zaj, Zak, Zal, Zam, Zan, Zao, Zap, Zaq, Zar, Zas, Zat, Zau, Zav, Zaw, Zax, Zay, Zaz, Za0, Za1, Za2, Za3, Za4, Za5, Za6, Za7, Za8, Za9, Zba, Zbb, Zbc, Zbd, Zbe, Zbf, Zbg, Zbh, Zbi, Zbj, Zbk, Zbl, Zbm, Zbn, Zbo, Zbp, Zbq, Zbr, Zbs, Zbt, Zbu, Zbv, Zbw, Zbx, Zby, Zbz, Zb0, Zb1, Zb2, decide_true, decide_false, Zb3, Zb4, Zb5, Zb6, Zb7, Zb8, Zb9, Zca, Zcb, Zcc, Zcd, beq_self_eq_true, cond_true, cond_false, if_false, if_true, reduceIte, reduceCtorEq, not_true_eq_false, not_false_eq_true, true_and, and_true, forall_const, false_and, and_false, implies_true, Zce, Zcf, Zcg, Zch, Zci]))) ?_
  rintro i ⟨hi, ha⟩
  by_cases hlt : i < l.length
  · have hd : decide ((i : Int) < (l.length : Int)) = true := by simp; omega
    obtain ⟨ba, oa, rfl, -, hla⟩ := (h.1 i _ (getA hlt)).all
    have hl0 := hla 0 (by omega)
    simp only [Nat.add_zero, List.getD_cons_zero] at hl0
    simp (disch := first | assumption | exact Ne.symm (by assumption) | omega) only [hd, ↓ZD, ZU, ne_eq, Zaa, Zab, false_implies, Zac, Zad, Zae, Zaf, Zag, Zah, Zai, Zaj, Zak, Zal, Zam, Zan, Zao, Zap, Zaq, Zar, Zas, Zat, Zau, Zav, Zaw, Zax, Zay, Zaz, Za0, Za1, Za2, Za3, Za4, Za5, Za6, Za7, Za8, Za9, Zba, Zbb, Zbc, Zbd, Zbe, Zbf, Zbg, Zbh, Zbi, Zbj, Zbk, Zbl, Zbm, Zbn, Zbo, Zbp, Zbq, Zbr, Zbs, Zbt, Zbu, Zbv, Zbw, Zbx, Zby, Zbz, Zb0, Zb1, Zb2, decide_true, decide_false, Zb3, Zb4, Zb5, Zb6, Zb7, Zb8, Zb9, Zca, Zcb, Zcc, Zcd, beq_self_eq_true, cond_true, cond_false, if_false, if_true, reduceIte, reduceCtorEq, not_true_eq_false, not_false_eq_true, true_and, and_true, forall_const, false_and, and_false, implies_true, Zce, Zcf, Zcg, Zch, Zci]
    refine conj.of (by omega) ?_
    simp (disch := first | assumption | exact Ne.symm (by assumption) | omega) only [hd, Int.toNat_natCast, ↓hl0, ↓ZD, ZU, ne_eq, Zaa, Zab, false_implies, Zac, Zad, Zae, Zaf, Zag, Zah, Zai, Zaj, Zak, Zal, Zam, Zan, Zao, Zap, Zaq, Zar, Zas, Zat, Zau, Zav, Zaw, Zax, Zay, Zaz, Za0, Za1, Za2, Za3, Za4, Za5, Za6, Za7, Za8, Za9, Zba, Zbb, Zbc, Zbd, Zbe, Zbf, Zbg, Zbh, Zbi, Zbj, Zbk, Zbl, Zbm, Zbn, Zbo, Zbp, Zbq, Zbr, Zbs, Zbt, Zbu, Zbv, Zbw, Zbx, Zby, Zbz, Zb0, Zb1, Zb2, decide_true, decide_false, Zb3, Zb4, Zb5, Zb6, Zb7, Zb8, Zb9, Zca, Zcb, Zcc, Zcd, beq_self_eq_true, cond_true, cond_false, if_false, if_true, reduceIte, reduceCtorEq, not_true_eq_false, not_false_eq_true, true_and, and_true, forall_const, false_and, and_false, implies_true, Zce, Zcf, Zcg, Zch, Zci]
    refine ⟨fun hpp => ?_, fun hpp => ?_⟩
    · have hpp : nmA l nm i = true := hpp
      have : r = i := by
        rcases hr with ⟨k, h1, h2, h3, h4⟩ | ⟨h1, h2⟩
        · have : k = i := by
            rcases Nat.lt_trichotomy k i with h | h | h
            · rw [ha k h] at h3; cases h3
            · exact h
            · rw [h4 i h] at hpp; cases hpp
          rw [h1, this]
        · rw [h2 i hlt] at hpp; cases hpp
      rw [this]
    · have hpp : nmA l nm i = false := hpp
      refine invK.on (i + 1) (⟨by omega, fun j hj => by
        by_cases e : j = i
        · rw [e]; exact hpp
        · exact ha j (by omega)⟩) (by omega) (by (simp only [Le_nil, Le_cons]; simp (disch := first | assumption | exact Ne.symm (by assumption) | omega) only [↓ZD, ZU, ne_eq, Zaa, Zab, false_implies, Zac, Zad, Zae, Zaf, Zag, Zah, Zai, Zaj, Zak, Zal, Zam, Zan, Zao, Zap, Zaq, Zar, Zas, Zat, Zau, Zav, Zaw, Zax, Zay, Zaz, Za0, Za1, Za2, Za3, Za4, Za5, Za6, Za7, Za8, Za9, Zba, Zbb, Zbc, Zbd, Zbe, Zbf, Zbg, Zbh, Zbi, Zbj, Zbk, Zbl, Zbm, Zbn, Zbo, Zbp, Zbq, Zbr, Zbs, Zbt, Zbu, Zbv, Zbw, Zbx, Zby, Zbz, Zb0, Zb1, Zb2, decide_true, decide_false, Zb3, Zb4, Zb5, Zb6, Zb7, Zb8, Zb9, Zca, Zcb, Zcc, Zcd, beq_self_eq_true, cond_true, cond_false, if_false, if_true, reduceIte, reduceCtorEq, not_true_eq_false, not_false_eq_true, true_and, and_true, forall_const, false_and, and_false, implies_true, Zce, Zcf, Zcg, Zch, Zci]; try trivial)) (by (simp only [HLe_nil, HLe_cons]; try (simp (disch := first | assumption | exact Ne.symm (by assumption) | omega) only [↓ZD, ZU, ne_eq, Zaa, Zab, false_implies, Zac, Zad, Zae, Zaf, Zag, Zah, Zai, Zaj, Zak, Zal, Zam, Zan, Zao, Zap, Zaq, Zar, Zas, Zat, Zau, Zav, Zaw, Zax, Zay, Zaz, Za0, Za1, Za2, Za3, Za4, Za5, Za6, Za7, Za8, Za9, Zba, Zbb, Zbc, Zbd, Zbe, Zbf, Zbg, Zbh, Zbi, Zbj, Zbk, Zbl, Zbm, Zbn, Zbo, Zbp, Zbq, Zbr, Zbs, Zbt, Zbu, Zbv, Zbw, Zbx, Zby, Zbz, Zb0, Zb1, Zb2, decide_true, decide_false, Zb3, Zb4, Zb5, Zb6, Zb7, Zb8, Zb9, Zca, Zcb, Zcc, Zcd, beq_self_eq_true, cond_true, cond_false, if_false, if_true, reduceIte, reduceCtorEq, not_true_eq_false, not_false_eq_true, true_and, and_true, forall_const, false_and, and_false, implies_true, Zce, Zcf, Zcg, Zch, Zci])))
  · have hd : decide ((i : Int) < (l.length : Int)) = false := by simp; omega
    have : r = -1 := by
      rcases hr with ⟨k, h1, h2, h3, h4⟩ | ⟨h1, h2⟩
      · rw [ha k (by omega)] at h3; cases h3
      · exact h1
    simp (disch := first | assumption | exact Ne.symm (by assumption) | omega) only [hd, this, ↓ZD, ZU, ne_eq, Zaa, Zab, false_implies, Zac, Zad, Zae, Zaf, Zag, Zah, Zai, Zaj, Zak, Zal, Zam, Zan, Zao, Zap, Zaq, Zar, Zas, Zat, Zau, Zav, Zaw, Zax, Zay, Zaz, Za0, Za1, Za2, Za3, Za4, Za5, Za6, Za7, Za8, Za9, Zba, Zbb, Zbc, Zbd, Zbe, Zbf, Zbg, Zbh, Zbi, Zbj, Zbk, Zbl, Zbm, Zbn, Zbo, Zbp, Zbq, Zbr, Zbs, Zbt, Zbu, Zbv, Zbw, Zbx, Zby, Zbz, Zb0, Zb1, Zb2, decide_true, decide_false, Zb3, Zb4, Zb5, Zb6, Zb7, Zb8, Zb9, Zca, Zcb, Zcc, Zcd, beq_self_eq_true, cond_true, cond_false, if_false, if_true, reduceIte, reduceCtorEq, not_true_eq_false, not_false_eq_true, true_and, and_true, forall_const, false_and, and_false, implies_true, Zce, Zcf, Zcg, Zch, Zci]
theorem idxA (F : Base) {a : Option Addr} {c : Nat} {l : List At} {g : Nat → List Value} (h : HasA F a l g) (hl : l.length ≤ 9223372036854775807) (nm : List UInt8) (r : Int) (hr : isFst (nmA l nm) l.length r) (b T : Nat) (hb : F b = some (.cells #[.string (bs nm)] T (0, 0))) :
    PureV Try.prog F 23 #[.slice a l.length c, .func (.func 24) #[] #[.pointer (some ⟨b, 0, none⟩)]] (.int .i64 r) := by
  have hf : ∀ i, i < l.length → PureF Try.prog F (.func (.func 24) #[] #[.pointer (some ⟨b, 0, none⟩)]) [.agg (.string (bs (l.getD i nilA).1) :: (g i ++ [.bool (l.getD i nilA).2.2])).toArray] (.bool (nmA l nm i)) := fun i hi => by
    have h1 := f24_pure F b nm T hb (l.getD i nilA) (g i) (l.getD i nilA).2.1 (h.2 i _ (getA hi))
    unfold nmA
    exact ⟨24, #[], #[.pointer (some ⟨b, 0, none⟩)], rfl, callable24, h1⟩
  obtain ⟨G, hG⟩ : ∃ G : Nat → List Value, ∀ i, G i = .string (bs (l.getD i nilA).1) :: (g i ++ [.bool (l.getD i nilA).2.2]) := ⟨fun i => .string (bs (l.getD i nilA).1) :: (g i ++ [.bool (l.getD i nilA).2.2]), fun _ => rfl⟩
  refine idx23 F a l.length c G (.func (.func 24) #[] #[.pointer (some ⟨b, 0, none⟩)]) (nmA l nm) r hr hl (fun i hi => ?_) (fun i hi => ?_)
  · rw [hG]; exact h.1 i _ (getA hi)
  · rw [hG]; exact hf i hi
theorem attr_pure (F : Base) {a : Option Addr} {c : Nat} {l : List At} {g : Nat → List Value} (h : HasA F a l g) (hl : l.length ≤ 9223372036854775807) (nm : List UInt8) (r : Int) (hr : isFst (nmA l nm) l.length r) :
    ∃ cs, (∃ n' t' o', cs = .string (bs n') :: (t' ++ [.bool o']) ∧ (∃ k nm a1 n1 c1 a2 n2 c2, t' = [.int .i64 k, .string (bs nm), .slice a1 n1 c1, .slice a2 n2 c2]) ∧ (0 ≤ r → n' = nm ∧ o' = (l.getD r.toNat nilA).2.2) ∧ (r < 0 → n' = [])) ∧
    PureV Try.prog F 11 #[.slice a l.length c, .string (bs nm)] (.tuple #[.agg cs.toArray, .bool (decide (0 ≤ r))]) := by
  by_cases h0 : 0 ≤ r
  · obtain ⟨i, rfl, hi, hp, -⟩ : ∃ i : Nat, r = i ∧ i < l.length ∧ nmA l nm i = true ∧ ∀ j, j < i → nmA l nm j = false := by
      rcases hr with h | ⟨h, _⟩
      · exact h
      · omega
    have hp' : (l.getD i nilA).1 = nm := by simpa [nmA] using hp
    refine ⟨.string (bs (l.getD i nilA).1) :: (g i ++ [.bool (l.getD i nilA).2.2]), ⟨_, _, _, rfl, ?_, ?_, ?_⟩, ?_⟩
    · exact (h.2 i _ (getA hi)).form
    · exact fun _ => ⟨hp', rfl⟩
    · intro h; omega
    · have hcl := h.1 i _ (getA hi)
      obtain ⟨k', nm', a1', n1', c1', a2', n2', c2', hform⟩ := (h.2 i _ (getA hi)).form
      rw [hform] at hcl
      obtain ⟨ba, oa, rfl, hla⟩ := hcl.ldn
      rw [hform]
      have hd : decide ((i : Int) < 0) = false := by simp
      have hd2 : decide ((0 : Int) ≤ (i : Int)) = true := by simp
      refine pureV_of_svc mixed Try.func11 low11 (Nat.le_of_ble_eq_true rfl) (fun w0 => ?_)
      simp (disch := first | assumption | exact Ne.symm (by assumption) | omega) only [fu11, ↓ZD, ZU, ne_eq, Zaa, Zab, false_implies, Zac, Zad, Zae, Zaf, Zag, Zah, Zai, Zaj, Zak, Zal, Zam, Zan, Zao, Zap, Zaq, Zar, Zas, Zat, Zau, Zav, Zaw, Zax, Zay, Zaz, Za0, Za1, Za2, Za3, Za4, Za5, Za6, Za7, Za8, Za9, Zba, Zbb, Zbc, Zbd, Zbe, Zbf, Zbg, Zbh, Zbi, Zbj, Zbk, Zbl, Zbm, Zbn, Zbo, Zbp, Zbq, Zbr, Zbs, Zbt, Zbu, Zbv, Zbw, Zbx, Zby, Zbz, Zb0, Zb1, Zb2, decide_true, decide_false, Zb3, Zb4, Zb5, Zb6, Zb7, Zb8, Zb9, Zca, Zcb, Zcc, Zcd, beq_self_eq_true, cond_true, cond_false, if_false, if_true, reduceIte, reduceCtorEq, not_true_eq_false, not_false_eq_true, true_and, and_true, forall_const, false_and, and_false, implies_true, Zce, Zcf, Zcg, Zch, Zci]
      refine NewB.of fun b1 hb1 hF1 => ?_
      simp (disch := first | assumption | exact Ne.symm (by assumption) | omega) only [hF1, ↓ZD, ZU, ne_eq, Zaa, Zab, false_implies, Zac, Zad, Zae, Zaf, Zag, Zah, Zai, Zaj, Zak, Zal, Zam, Zan, Zao, Zap, Zaq, Zar, Zas, Zat, Zau, Zav, Zaw, Zax, Zay, Zaz, Za0, Za1, Za2, Za3, Za4, Za5, Za6, Za7, Za8, Za9, Zba, Zbb, Zbc, Zbd, Zbe, Zbf, Zbg, Zbh, Zbi, Zbj, Zbk, Zbl, Zbm, Zbn, Zbo, Zbp, Zbq, Zbr, Zbs, Zbt, Zbu, Zbv, Zbw, Zbx, Zby, Zbz, Zb0, Zb1, Zb2, decide_true, decide_false, Zb3, Zb4, Zb5, Zb6, Zb7, Zb8, Zb9, Zca, Zcb, Zcc, Zcd, beq_self_eq_true, cond_true, cond_false, if_false, if_true, reduceIte, reduceCtorEq, not_true_eq_false, not_false_eq_true, true_and, and_true, forall_const, false_and, and_false, implies_true, Zce, Zcf, Zcg, Zch, Zci]
      refine NewB.of fun b2 hb2 hF2 => ?_
      simp only [List.forall_mem_cons, List.not_mem_nil] at hb2
      simp (disch := first | assumption | exact Ne.symm (by assumption) | omega) only [hF1, hF2, ↓ZD, ZU, ne_eq, Zaa, Zab, false_implies, Zac, Zad, Zae, Zaf, Zag, Zah, Zai, Zaj, Zak, Zal, Zam, Zan, Zao, Zap, Zaq, Zar, Zas, Zat, Zau, Zav, Zaw, Zax, Zay, Zaz, Za0, Za1, Za2, Za3, Za4, Za5, Za6, Za7, Za8, Za9, Zba, Zbb, Zbc, Zbd, Zbe, Zbf, Zbg, Zbh, Zbi, Zbj, Zbk, Zbl, Zbm, Zbn, Zbo, Zbp, Zbq, Zbr, Zbs, Zbt, Zbu, Zbv, Zbw, Zbx, Zby, Zbz, Zb0, Zb1, Zb2, decide_true, decide_false, Zb3, Zb4, Zb5, Zb6, Zb7, Zb8, Zb9, Zca, Zcb, Zcc, Zcd, beq_self_eq_true, cond_true, cond_false, if_false, if_true, reduceIte, reduceCtorEq, not_true_eq_false, not_false_eq_true, true_and, and_true, forall_const, false_and, and_false, implies_true, Zce, Zcf, Zcg, Zch, Zci]
      refine CallE.pureH (idxA _ (h.mono le_up) hl nm i hr b1 9 (by simp (disch := first | assumption | exact Ne.symm (by assumption) | omega) only [hF1, hF2, hb2, ↓ZD, ZU, ne_eq, Zaa, Zab, false_implies, Zac, Zad, Zae, Zaf, Zag, Zah, Zai, Zaj, Zak, Zal, Zam, Zan, Zao, Zap, Zaq, Zar, Zas, Zat, Zau, Zav, Zaw, Zax, Zay, Zaz, Za0, Za1, Za2, Za3, Za4, Za5, Za6, Za7, Za8, Za9, Zba, Zbb, Zbc, Zbd, Zbe, Zbf, Zbg, Zbh, Zbi, Zbj, Zbk, Zbl, Zbm, Zbn, Zbo, Zbp, Zbq, Zbr, Zbs, Zbt, Zbu, Zbv, Zbw, Zbx, Zby, Zbz, Zb0, Zb1, Zb2, decide_true, decide_false, Zb3, Zb4, Zb5, Zb6, Zb7, Zb8, Zb9, Zca, Zcb, Zcc, Zcd, beq_self_eq_true, cond_true, cond_false, if_false, if_true, reduceIte, reduceCtorEq, not_true_eq_false, not_false_eq_true, true_and, and_true, forall_const, false_and, and_false, implies_true, Zce, Zcf, Zcg, Zch, Zci])) ?_
      simp (disch := first | assumption | exact Ne.symm (by assumption) | omega) only [hF1, hF2, hd, ↓ZD, ZU, ne_eq, Zaa, Zab, false_implies, Zac, Zad, Zae, Zaf, Zag, Zah, Zai, Zaj, Zak, Zal, Zam, Zan, Zao, Zap, Zaq, Zar, Zas, Zat, Zau, Zav, Zaw, Zax, Zay, Zaz, Za0, Za1, Za2, Za3, Za4, Za5, Za6, Za7, Za8, Za9, Zba, Zbb, Zbc, Zbd, Zbe, Zbf, Zbg, Zbh, Zbi, Zbj, Zbk, Zbl, Zbm, Zbn, Zbo, Zbp, Zbq, Zbr, Zbs, Zbt, Zbu, Zbv, Zbw, Zbx, Zby, Zbz, Zb0, Zb1, Zb2, decide_true, decide_false, Zb3, Zb4, Zb5, Zb6, Zb7, Zb8, Zb9, Zca, Zcb, Zcc, Zcd, beq_self_eq_true, cond_true, cond_false, if_false, if_true, reduceIte, reduceCtorEq, not_true_eq_false, not_false_eq_true, true_and, and_true, forall_const, false_and, and_false, implies_true, Zce, Zcf, Zcg, Zch, Zci]
      refine conj.of (by omega) ?_
      simp (disch := first | assumption | exact Ne.symm (by assumption) | omega) only [hF1, hF2, hd, Int.toNat_natCast, ↓hla, hd2, ↓ZD, ZU, ne_eq, Zaa, Zab, false_implies, Zac, Zad, Zae, Zaf, Zag, Zah, Zai, Zaj, Zak, Zal, Zam, Zan, Zao, Zap, Zaq, Zar, Zas, Zat, Zau, Zav, Zaw, Zax, Zay, Zaz, Za0, Za1, Za2, Za3, Za4, Za5, Za6, Za7, Za8, Za9, Zba, Zbb, Zbc, Zbd, Zbe, Zbf, Zbg, Zbh, Zbi, Zbj, Zbk, Zbl, Zbm, Zbn, Zbo, Zbp, Zbq, Zbr, Zbs, Zbt, Zbu, Zbv, Zbw, Zbx, Zby, Zbz, Zb0, Zb1, Zb2, decide_true, decide_false, Zb3, Zb4, Zb5, Zb6, Zb7, Zb8, Zb9, Zca, Zcb, Zcc, Zcd, beq_self_eq_true, cond_true, cond_false, if_false, if_true, reduceIte, reduceCtorEq, not_true_eq_false, not_false_eq_true, true_and, and_true, forall_const, false_and, and_false, implies_true, Zce, Zcf, Zcg, Zch, Zci]
  · obtain rfl : r = -1 := by
      rcases hr with ⟨i, h, _⟩ | ⟨h, _⟩
      · omega
      · exact h
    refine ⟨[.string (bs []), .int .i64 0, .string (bs []), .slice none 0 0, .slice none 0 0, .bool false], ⟨[], [.int .i64 0, .string (bs []), .slice none 0 0, .slice none 0 0], false, rfl, ⟨_, _, _, _, _, _, _, _, rfl⟩, fun h => absurd h h0, fun _ => rfl⟩, ?_⟩
    refine pureV_of_svc mixed Try.func11 low11 (Nat.le_of_ble_eq_true rfl) (fun w0 => ?_)
    simp (disch := first | assumption | exact Ne.symm (by assumption) | omega) only [fu11, ↓ZD, ZU, ne_eq, Zaa, Zab, false_implies, Zac, Zad, Zae, Zaf, Zag, Zah, Zai, Zaj, Zak, Zal, Zam, Zan, Zao, Zap, Zaq, Zar, Zas, Zat, Zau, Zav, Zaw, Zax, Zay, Zaz, Za0, Za1, Za2, Za3, Za4, Za5, Za6, Za7, Za8, Za9, Zba, Zbb, Zbc, Zbd, Zbe, Zbf, Zbg, Zbh, Zbi, Zbj, Zbk, Zbl, Zbm, Zbn, Zbo, Zbp, Zbq, Zbr, Zbs, Zbt, Zbu, Zbv, Zbw, Zbx, Zby, Zbz, Zb0, Zb1, Zb2, decide_true, decide_false, Zb3, Zb4, Zb5, Zb6, Zb7, Zb8, Zb9, Zca, Zcb, Zcc, Zcd, beq_self_eq_true, cond_true, cond_false, if_false, if_true, reduceIte, reduceCtorEq, not_true_eq_false, not_false_eq_true, true_and, and_true, forall_const, false_and, and_false, implies_true, Zce, Zcf, Zcg, Zch, Zci]
    refine NewB.of fun b1 hb1 hF1 => ?_
    simp (disch := first | assumption | exact Ne.symm (by assumption) | omega) only [hF1, ↓ZD, ZU, ne_eq, Zaa, Zab, false_implies, Zac, Zad, Zae, Zaf, Zag, Zah, Zai, Zaj, Zak, Zal, Zam, Zan, Zao, Zap, Zaq, Zar, Zas, Zat, Zau, Zav, Zaw, Zax, Zay, Zaz, Za0, Za1, Za2, Za3, Za4, Za5, Za6, Za7, Za8, Za9, Zba, Zbb, Zbc, Zbd, Zbe, Zbf, Zbg, Zbh, Zbi, Zbj, Zbk, Zbl, Zbm, Zbn, Zbo, Zbp, Zbq, Zbr, Zbs, Zbt, Zbu, Zbv, Zbw, Zbx, Zby, Zbz, Zb0, Zb1, Zb2, decide_true, decide_false, Zb3, Zb4, Zb5, Zb6, Zb7, Zb8, Zb9, Zca, Zcb, Zcc, Zcd, beq_self_eq_true, cond_true, cond_false, if_false, if_true, reduceIte, reduceCtorEq, not_true_eq_false, not_false_eq_true, true_and, and_true, forall_const, false_and, and_false, implies_true, Zce, Zcf, Zcg, Zch, Zci]
    refine NewB.of fun b2 hb2 hF2 => ?_
    simp only [List.forall_mem_cons, List.not_mem_nil] at hb2
    simp (disch := first | assumption | exact Ne.symm (by assumption) | omega) only [hF1, hF2, ↓ZD, ZU, ne_eq, Zaa, Zab, false_implies, Zac, Zad, Zae, Zaf, Zag, Zah, Zai, Zaj, Zak, Zal, Zam, Zan, Zao, Zap, Zaq, Zar, Zas, Zat, Zau, Zav, Zaw, Zax, Zay, Zaz, Za0, Za1, Za2, Za3, Za4, Za5, Za6, Za7, Za8, Za9, Zba, Zbb, Zbc, Zbd, Zbe, Zbf, Zbg, Zbh, Zbi, Zbj, Zbk, Zbl, Zbm, Zbn, Zbo, Zbp, Zbq, Zbr, Zbs, Zbt, Zbu, Zbv, Zbw, Zbx, Zby, Zbz, Zb0, Zb1, Zb2, decide_true, decide_false, Zb3, Zb4, Zb5, Zb6, Zb7, Zb8, Zb9, Zca, Zcb, Zcc, Zcd, beq_self_eq_true, cond_true, cond_false, if_false, if_true, reduceIte, reduceCtorEq, not_true_eq_false, not_false_eq_true, true_and, and_true, forall_const, false_and, and_false, implies_true, Zce, Zcf, Zcg, Zch, Zci]
    refine CallE.pureH (idxA _ (h.mono le_up) hl nm (-1) hr b1 9 (by simp (disch := first | assumption | exact Ne.symm (by assumption) | omega) only [hF1, hF2, hb2, ↓ZD, ZU, ne_eq, Zaa, Zab, false_implies, Zac, Zad, Zae, Zaf, Zag, Zah, Zai, Zaj, Zak, Zal, Zam, Zan, Zao, Zap, Zaq, Zar, Zas, Zat, Zau, Zav, Zaw, Zax, Zay, Zaz, Za0, Za1, Za2, Za3, Za4, Za5, Za6, Za7, Za8, Za9, Zba, Zbb, Zbc, Zbd, Zbe, Zbf, Zbg, Zbh, Zbi, Zbj, Zbk, Zbl, Zbm, Zbn, Zbo, Zbp, Zbq, Zbr, Zbs, Zbt, Zbu, Zbv, Zbw, Zbx, Zby, Zbz, Zb0, Zb1, Zb2, decide_true, decide_false, Zb3, Zb4, Zb5, Zb6, Zb7, Zb8, Zb9, Zca, Zcb, Zcc, Zcd, beq_self_eq_true, cond_true, cond_false, if_false, if_true, reduceIte, reduceCtorEq, not_true_eq_false, not_false_eq_true, true_and, and_true, forall_const, false_and, and_false, implies_true, Zce, Zcf, Zcg, Zch, Zci])) ?_
    simp (disch := first | assumption | exact Ne.symm (by assumption) | omega) only [hF1, hF2, Int.reduceLT, ↓ZD, ZU, ne_eq, Zaa, Zab, false_implies, Zac, Zad, Zae, Zaf, Zag, Zah, Zai, Zaj, Zak, Zal, Zam, Zan, Zao, Zap, Zaq, Zar, Zas, Zat, Zau, Zav, Zaw, Zax, Zay, Zaz, Za0, Za1, Za2, Za3, Za4, Za5, Za6, Za7, Za8, Za9, Zba, Zbb, Zbc, Zbd, Zbe, Zbf, Zbg, Zbh, Zbi, Zbj, Zbk, Zbl, Zbm, Zbn, Zbo, Zbp, Zbq, Zbr, Zbs, Zbt, Zbu, Zbv, Zbw, Zbx, Zby, Zbz, Zb0, Zb1, Zb2, decide_true, decide_false, Zb3, Zb4, Zb5, Zb6, Zb7, Zb8, Zb9, Zca, Zcb, Zcc, Zcd, beq_self_eq_true, cond_true, cond_false, if_false, if_true, reduceIte, reduceCtorEq, not_true_eq_false, not_false_eq_true, true_and, and_true, forall_const, false_and, and_false, implies_true, Zce, Zcf, Zcg, Zch, Zci]
end Go.Proofs.Ytdljgcicncegkaa
