/- Layer 7: rows of bytes, names, blanks. -/
import Derived.Test.YtndnpmlhofijjaaDoorInG
namespace Go.Proofs.YtndnpmlhofijjaaDoor
open Go Go.Eng
open Int renaming reduceEq → Zaa, cast_ofNat_Int → Zac, reduceToNat → Zbu, toNat_zero → Zbv, toNat_one → Zbw, reduceLE → Zbx, reduceLT → Zby, reduceAdd → Zbz, reduceSub → Zb0, reduceNeg → Zb1, zero_add → Zb2, reducePow → Zcg, reduceNegSucc → Zci
open UInt8 renaming reduceOfNat → Zab
open List renaming toList_toArray → Zad, length_append → Zag, cons_append → Zav, nil_append → Zaw, length_cons → Zax, length_nil → Zay, drop_zero → Zaz, drop_succ_cons → Za0, take_succ_cons → Za1, take_zero → Za2, drop_nil → Za3, take_nil → Za4, append_nil → Za5, all_cons → Za6, all_nil → Za7, isEmpty_cons → Za8, size_toArray → Za9, getElem?_toArray → Zba, getElem?_cons_zero → Zbb, getElem?_cons_succ → Zbc, getD_cons_zero → Zbd, getD_cons_succ → Zbe, mapM_cons → Zbf, mapM_nil → Zbg
open Option renaming getD_some → Zae, getD_none → Zaf, map_some → Zar, map_none → Zas, bind_some → Zat, bind_none → Zau
open Nat renaming le_add_right → Zah, reduceAdd → Zbi, reduceMul → Zbj, reduceMod → Zbk, reduceDiv → Zbl, reduceEqDiff → Zbm, reduceBEq → Zbn, reduceLeDiff → Zbo, reduceSub → Zbp, zero_add → Zbq, add_zero → Zbr, le_refl → Zbs, zero_le → Zbt, reducePow → Zcf, reduceLT → Zch
open Go.Eng renaming subG → Zai, lit → Zaj, isPar → Zak, numb → Zal, Wf → Zam, resV → Zan, oneCell → Zao, isB → Zap, asB → Zaq
open Go.Value renaming cells → Zbh
open Bool renaming and_true → Zb3, true_and → Zb4, and_self → Zb5, not_true → Zb6, not_false → Zb7, and_false → Zb8, or_false → Zb9, or_true → Zca, true_or → Zcb, false_or → Zcc, false_and → Zcd, false_eq_true → Zce
set_option linter.unusedSimpArgs false
set_option linter.unusedVariables false
set_option maxRecDepth 20000

theorem isL_eq (c : UInt8) : nameB [c] = isL c := by simp [nameB]
theorem xletter_pure (F : Base) (c : UInt8) : PureV Tryd.prog F 21 #[.int .u8 c.toNat] (.bool (isL c)) := by
  refine pureV_of_svc mixed Tryd.func21 low21 (Nat.le_of_ble_eq_true rfl) (fun w0 => ?_)
  simp (disch := omega) only [fu21, ↓ZD, ZU, ne_eq, Zaa, Zab, false_implies, Zac, Zad, Zae, Zaf, Zag, Zah, Zai, Zaj, Zak, Zal, Zam, Zan, Zao, Zap, Zaq, Zar, Zas, Zat, Zau, Zav, Zaw, Zax, Zay, Zaz, Za0, Za1, Za2, Za3, Za4, Za5, Za6, Za7, Za8, Za9, Zba, Zbb, Zbc, Zbd, Zbe, Zbf, Zbg, Zbh, Zbi, Zbj, Zbk, Zbl, Zbm, Zbn, Zbo, Zbp, Zbq, Zbr, Zbs, Zbt, Zbu, Zbv, Zbw, Zbx, Zby, Zbz, Zb0, Zb1, Zb2, decide_true, decide_false, Zb3, Zb4, Zb5, Zb6, Zb7, Zb8, Zb9, Zca, Zcb, Zcc, Zcd, beq_self_eq_true, cond_true, cond_false, if_false, if_true, reduceIte, reduceCtorEq, not_true_eq_false, not_false_eq_true, true_and, and_true, forall_const, false_and, and_false, implies_true, Zce, Zcf, Zcg, Zch, Zci]
  refine NewB.of fun b1 hb1 hF1 => ?_
  simp (disch := omega) only [hF1, ↓ZD, ZU, ne_eq, Zaa, Zab, false_implies, Zac, Zad, Zae, Zaf, Zag, Zah, Zai, Zaj, Zak, Zal, Zam, Zan, Zao, Zap, Zaq, Zar, Zas, Zat, Zau, Zav, Zaw, Zax, Zay, Zaz, Za0, Za1, Za2, Za3, Za4, Za5, Za6, Za7, Za8, Za9, Zba, Zbb, Zbc, Zbd, Zbe, Zbf, Zbg, Zbh, Zbi, Zbj, Zbk, Zbl, Zbm, Zbn, Zbo, Zbp, Zbq, Zbr, Zbs, Zbt, Zbu, Zbv, Zbw, Zbx, Zby, Zbz, Zb0, Zb1, Zb2, decide_true, decide_false, Zb3, Zb4, Zb5, Zb6, Zb7, Zb8, Zb9, Zca, Zcb, Zcc, Zcd, beq_self_eq_true, cond_true, cond_false, if_false, if_true, reduceIte, reduceCtorEq, not_true_eq_false, not_false_eq_true, true_and, and_true, forall_const, false_and, and_false, implies_true, Zce, Zcf, Zcg, Zch, Zci]
  refine CallE.pure (name_pure F [c] (by simp)) ?_
  simp (disch := omega) only [isL_eq, ↓ZD, ZU, ne_eq, Zaa, Zab, false_implies, Zac, Zad, Zae, Zaf, Zag, Zah, Zai, Zaj, Zak, Zal, Zam, Zan, Zao, Zap, Zaq, Zar, Zas, Zat, Zau, Zav, Zaw, Zax, Zay, Zaz, Za0, Za1, Za2, Za3, Za4, Za5, Za6, Za7, Za8, Za9, Zba, Zbb, Zbc, Zbd, Zbe, Zbf, Zbg, Zbh, Zbi, Zbj, Zbk, Zbl, Zbm, Zbn, Zbo, Zbp, Zbq, Zbr, Zbs, Zbt, Zbu, Zbv, Zbw, Zbx, Zby, Zbz, Zb0, Zb1, Zb2, decide_true, decide_false, Zb3, Zb4, Zb5, Zb6, Zb7, Zb8, Zb9, Zca, Zcb, Zcc, Zcd, beq_self_eq_true, cond_true, cond_false, if_false, if_true, reduceIte, reduceCtorEq, not_true_eq_false, not_false_eq_true, true_and, and_true, forall_const, false_and, and_false, implies_true, Zce, Zcf, Zcg, Zch, Zci]
theorem xdigit_pure (F : Base) (c : UInt8) : PureV Tryd.prog F 23 #[.int .u8 c.toNat] (.bool (isD c)) := by
  refine pureV_of_svc mixed Tryd.func23 low23 (Nat.le_of_ble_eq_true rfl) (fun w0 => ?_)
  simp (disch := omega) only [fu23, ↓ZD, ZU, ne_eq, Zaa, Zab, false_implies, Zac, Zad, Zae, Zaf, Zag, Zah, Zai, Zaj, Zak, Zal, Zam, Zan, Zao, Zap, Zaq, Zar, Zas, Zat, Zau, Zav, Zaw, Zax, Zay, Zaz, Za0, Za1, Za2, Za3, Za4, Za5, Za6, Za7, Za8, Za9, Zba, Zbb, Zbc, Zbd, Zbe, Zbf, Zbg, Zbh, Zbi, Zbj, Zbk, Zbl, Zbm, Zbn, Zbo, Zbp, Zbq, Zbr, Zbs, Zbt, Zbu, Zbv, Zbw, Zbx, Zby, Zbz, Zb0, Zb1, Zb2, decide_true, decide_false, Zb3, Zb4, Zb5, Zb6, Zb7, Zb8, Zb9, Zca, Zcb, Zcc, Zcd, beq_self_eq_true, cond_true, cond_false, if_false, if_true, reduceIte, reduceCtorEq, not_true_eq_false, not_false_eq_true, true_and, and_true, forall_const, false_and, and_false, implies_true, Zce, Zcf, Zcg, Zch, Zci]
  rfl
theorem notlf_pure (F : Base) (c : UInt8) : PureV Tryd.prog F 19 #[.int .u8 c.toNat] (.bool ((c.toNat : Int) != 10)) := by
  refine pureV_of_svc mixed Tryd.func19 low19 (Nat.le_of_ble_eq_true rfl) (fun w0 => ?_)
  simp (disch := omega) only [fu19, ↓ZD, ZU, ne_eq, Zaa, Zab, false_implies, Zac, Zad, Zae, Zaf, Zag, Zah, Zai, Zaj, Zak, Zal, Zam, Zan, Zao, Zap, Zaq, Zar, Zas, Zat, Zau, Zav, Zaw, Zax, Zay, Zaz, Za0, Za1, Za2, Za3, Za4, Za5, Za6, Za7, Za8, Za9, Zba, Zbb, Zbc, Zbd, Zbe, Zbf, Zbg, Zbh, Zbi, Zbj, Zbk, Zbl, Zbm, Zbn, Zbo, Zbp, Zbq, Zbr, Zbs, Zbt, Zbu, Zbv, Zbw, Zbx, Zby, Zbz, Zb0, Zb1, Zb2, decide_true, decide_false, Zb3, Zb4, Zb5, Zb6, Zb7, Zb8, Zb9, Zca, Zcb, Zcc, Zcd, beq_self_eq_true, cond_true, cond_false, if_false, if_true, reduceIte, reduceCtorEq, not_true_eq_false, not_false_eq_true, true_and, and_true, forall_const, false_and, and_false, implies_true, Zce, Zcf, Zcg, Zch, Zci]
theorem ld_pure (F : Base) (c : UInt8) : PureV Tryd.prog F 22 #[.int .u8 c.toNat] (.bool (isLD c)) := by
  refine pureV_of_svc mixed Tryd.func22 low22 (Nat.le_of_ble_eq_true rfl) (fun w0 => ?_)
  simp (disch := omega) only [fu22, ↓ZD, ZU, ne_eq, Zaa, Zab, false_implies, Zac, Zad, Zae, Zaf, Zag, Zah, Zai, Zaj, Zak, Zal, Zam, Zan, Zao, Zap, Zaq, Zar, Zas, Zat, Zau, Zav, Zaw, Zax, Zay, Zaz, Za0, Za1, Za2, Za3, Za4, Za5, Za6, Za7, Za8, Za9, Zba, Zbb, Zbc, Zbd, Zbe, Zbf, Zbg, Zbh, Zbi, Zbj, Zbk, Zbl, Zbm, Zbn, Zbo, Zbp, Zbq, Zbr, Zbs, Zbt, Zbu, Zbv, Zbw, Zbx, Zby, Zbz, Zb0, Zb1, Zb2, decide_true, decide_false, Zb3, Zb4, Zb5, Zb6, Zb7, Zb8, Zb9, Zca, Zcb, Zcc, Zcd, beq_self_eq_true, cond_true, cond_false, if_false, if_true, reduceIte, reduceCtorEq, not_true_eq_false, not_false_eq_true, true_and, and_true, forall_const, false_and, and_false, implies_true, Zce, Zcf, Zcg, Zch, Zci]
  refine CallE.pure (xletter_pure F c) ?_
  simp (disch := omega) only [↓ZD, ZU, ne_eq, Zaa, Zab, false_implies, Zac, Zad, Zae, Zaf, Zag, Zah, Zai, Zaj, Zak, Zal, Zam, Zan, Zao, Zap, Zaq, Zar, Zas, Zat, Zau, Zav, Zaw, Zax, Zay, Zaz, Za0, Za1, Za2, Za3, Za4, Za5, Za6, Za7, Za8, Za9, Zba, Zbb, Zbc, Zbd, Zbe, Zbf, Zbg, Zbh, Zbi, Zbj, Zbk, Zbl, Zbm, Zbn, Zbo, Zbp, Zbq, Zbr, Zbs, Zbt, Zbu, Zbv, Zbw, Zbx, Zby, Zbz, Zb0, Zb1, Zb2, decide_true, decide_false, Zb3, Zb4, Zb5, Zb6, Zb7, Zb8, Zb9, Zca, Zcb, Zcc, Zcd, beq_self_eq_true, cond_true, cond_false, if_false, if_true, reduceIte, reduceCtorEq, not_true_eq_false, not_false_eq_true, true_and, and_true, forall_const, false_and, and_false, implies_true, Zce, Zcf, Zcg, Zch, Zci]
  refine CallQ.of _ (fun _ => (xdigit_pure F c).up) ?_
  simp (disch := omega) only [↓ZD, ZU, ne_eq, Zaa, Zab, false_implies, Zac, Zad, Zae, Zaf, Zag, Zah, Zai, Zaj, Zak, Zal, Zam, Zan, Zao, Zap, Zaq, Zar, Zas, Zat, Zau, Zav, Zaw, Zax, Zay, Zaz, Za0, Za1, Za2, Za3, Za4, Za5, Za6, Za7, Za8, Za9, Zba, Zbb, Zbc, Zbd, Zbe, Zbf, Zbg, Zbh, Zbi, Zbj, Zbk, Zbl, Zbm, Zbn, Zbo, Zbp, Zbq, Zbr, Zbs, Zbt, Zbu, Zbv, Zbw, Zbx, Zby, Zbz, Zb0, Zb1, Zb2, decide_true, decide_false, Zb3, Zb4, Zb5, Zb6, Zb7, Zb8, Zb9, Zca, Zcb, Zcc, Zcd, beq_self_eq_true, cond_true, cond_false, if_false, if_true, reduceIte, reduceCtorEq, not_true_eq_false, not_false_eq_true, true_and, and_true, forall_const, false_and, and_false, implies_true, Zce, Zcf, Zcg, Zch, Zci]
  rfl
theorem takeWhile_at {p : UInt8 → Bool} {s : List UInt8} {i : Nat} (hi : i < s.length) (h1 : (s.take i).all p = true) (h2 : p (s.getD i 0) = false) : (s.takeWhile p).length = i := by
  induction s generalizing i with
  | nil => simp at hi
  | cons c r ih =>
    cases i with
    | zero => rw [List.getD_cons_zero] at h2; simp [List.takeWhile_cons, h2]
    | succ i =>
      rw [List.take_succ_cons, List.all_cons, Bool.and_eq_true] at h1
      rw [List.getD_cons_succ] at h2
      rw [List.takeWhile_cons, if_pos h1.1, List.length_cons, ih (by simpa using hi) h1.2 h2]
theorem takeWhile_all {p : UInt8 → Bool} {s : List UInt8} (h : s.all p = true) : s.takeWhile p = s := by
  induction s with
  | nil => rfl
  | cons c r ih =>
    rw [List.all_cons, Bool.and_eq_true] at h
    rw [List.takeWhile_cons, if_pos h.1, ih h.2]
theorem row_pure (F : Base) (s : List UInt8) (fv : Value) (p : UInt8 → Bool) (hs : s.length ≤ 9223372036854775807) (hp : ∀ c, PureF Tryd.prog F fv [.int .u8 c.toNat] (.bool (p c))) :
    PureV Tryd.prog F 18 #[.string (bs s), fv] (.int .i64 (s.takeWhile p).length) := by
  refine pureV_of_svc mixed Tryd.func18 low18 (Nat.le_of_ble_eq_true rfl) (fun w0 => ?_)
  simp (disch := omega) only [fu18, ↓ZD, ZU, ne_eq, Zaa, Zab, false_implies, Zac, Zad, Zae, Zaf, Zag, Zah, Zai, Zaj, Zak, Zal, Zam, Zan, Zao, Zap, Zaq, Zar, Zas, Zat, Zau, Zav, Zaw, Zax, Zay, Zaz, Za0, Za1, Za2, Za3, Za4, Za5, Za6, Za7, Za8, Za9, Zba, Zbb, Zbc, Zbd, Zbe, Zbf, Zbg, Zbh, Zbi, Zbj, Zbk, Zbl, Zbm, Zbn, Zbo, Zbp, Zbq, Zbr, Zbs, Zbt, Zbu, Zbv, Zbw, Zbx, Zby, Zbz, Zb0, Zb1, Zb2, decide_true, decide_false, Zb3, Zb4, Zb5, Zb6, Zb7, Zb8, Zb9, Zca, Zcb, Zcc, Zcd, beq_self_eq_true, cond_true, cond_false, if_false, if_true, reduceIte, reduceCtorEq, not_true_eq_false, not_false_eq_true, true_and, and_true, forall_const, false_and, and_false, implies_true, Zce, Zcf, Zcg, Zch, Zci]
  refine LoopL.inv (fun (i : Nat) => i ≤ s.length ∧ (s.take i).all p = true) (fun i => [(0, some (.string (bs s))), (1, some fv), (5, some (.int .i64 i))]) (fun i => []) (fun i => s.length - i) (0) (⟨Nat.zero_le _, rfl⟩) (by (simp only [Le_nil, Le_cons]; simp (disch := omega) only [↓ZD, ZU, ne_eq, Zaa, Zab, false_implies, Zac, Zad, Zae, Zaf, Zag, Zah, Zai, Zaj, Zak, Zal, Zam, Zan, Zao, Zap, Zaq, Zar, Zas, Zat, Zau, Zav, Zaw, Zax, Zay, Zaz, Za0, Za1, Za2, Za3, Za4, Za5, Za6, Za7, Za8, Za9, Zba, Zbb, Zbc, Zbd, Zbe, Zbf, Zbg, Zbh, Zbi, Zbj, Zbk, Zbl, Zbm, Zbn, Zbo, Zbp, Zbq, Zbr, Zbs, Zbt, Zbu, Zbv, Zbw, Zbx, Zby, Zbz, Zb0, Zb1, Zb2, decide_true, decide_false, Zb3, Zb4, Zb5, Zb6, Zb7, Zb8, Zb9, Zca, Zcb, Zcc, Zcd, beq_self_eq_true, cond_true, cond_false, if_false, if_true, reduceIte, reduceCtorEq, not_true_eq_false, not_false_eq_true, true_and, and_true, forall_const, false_and, and_false, implies_true, Zce, Zcf, Zcg, Zch, Zci]; try trivial)) (by (simp only [HLe_nil, HLe_cons]; try (simp (disch := omega) only [↓ZD, ZU, ne_eq, Zaa, Zab, false_implies, Zac, Zad, Zae, Zaf, Zag, Zah, Zai, Zaj, Zak, Zal, Zam, Zan, Zao, Zap, Zaq, Zar, Zas, Zat, Zau, Zav, Zaw, Zax, Zay, Zaz, Za0, Za1, Za2, Za3, Za4, Za5, Za6, Za7, Za8, Za9, Zba, Zbb, Zbc, Zbd, Zbe, Zbf, Zbg, Zbh, Zbi, Zbj, Zbk, Zbl, Zbm, Zbn, Zbo, Zbp, Zbq, Zbr, Zbs, Zbt, Zbu, Zbv, Zbw, Zbx, Zby, Zbz, Zb0, Zb1, Zb2, decide_true, decide_false, Zb3, Zb4, Zb5, Zb6, Zb7, Zb8, Zb9, Zca, Zcb, Zcc, Zcd, beq_self_eq_true, cond_true, cond_false, if_false, if_true, reduceIte, reduceCtorEq, not_true_eq_false, not_false_eq_true, true_and, and_true, forall_const, false_and, and_false, implies_true, Zce, Zcf, Zcg, Zch, Zci]))) ?_
  rintro i ⟨hi, ha⟩
  by_cases hlt : i < s.length
  · have hd : decide ((i : Int) < (s.length : Int)) = true := by simp; omega
    simp (disch := omega) only [hd, Int.toNat_natCast, ↓ZD, ZU, ne_eq, Zaa, Zab, false_implies, Zac, Zad, Zae, Zaf, Zag, Zah, Zai, Zaj, Zak, Zal, Zam, Zan, Zao, Zap, Zaq, Zar, Zas, Zat, Zau, Zav, Zaw, Zax, Zay, Zaz, Za0, Za1, Za2, Za3, Za4, Za5, Za6, Za7, Za8, Za9, Zba, Zbb, Zbc, Zbd, Zbe, Zbf, Zbg, Zbh, Zbi, Zbj, Zbk, Zbl, Zbm, Zbn, Zbo, Zbp, Zbq, Zbr, Zbs, Zbt, Zbu, Zbv, Zbw, Zbx, Zby, Zbz, Zb0, Zb1, Zb2, decide_true, decide_false, Zb3, Zb4, Zb5, Zb6, Zb7, Zb8, Zb9, Zca, Zcb, Zcc, Zcd, beq_self_eq_true, cond_true, cond_false, if_false, if_true, reduceIte, reduceCtorEq, not_true_eq_false, not_false_eq_true, true_and, and_true, forall_const, false_and, and_false, implies_true, Zce, Zcf, Zcg, Zch, Zci]
    refine conj.of (by omega) ?_
    simp (disch := omega) only [hd, Int.toNat_natCast, ↓ZD, ZU, ne_eq, Zaa, Zab, false_implies, Zac, Zad, Zae, Zaf, Zag, Zah, Zai, Zaj, Zak, Zal, Zam, Zan, Zao, Zap, Zaq, Zar, Zas, Zat, Zau, Zav, Zaw, Zax, Zay, Zaz, Za0, Za1, Za2, Za3, Za4, Za5, Za6, Za7, Za8, Za9, Zba, Zbb, Zbc, Zbd, Zbe, Zbf, Zbg, Zbh, Zbi, Zbj, Zbk, Zbl, Zbm, Zbn, Zbo, Zbp, Zbq, Zbr, Zbs, Zbt, Zbu, Zbv, Zbw, Zbx, Zby, Zbz, Zb0, Zb1, Zb2, decide_true, decide_false, Zb3, Zb4, Zb5, Zb6, Zb7, Zb8, Zb9, Zca, Zcb, Zcc, Zcd, beq_self_eq_true, cond_true, cond_false, if_false, if_true, reduceIte, reduceCtorEq, not_true_eq_false, not_false_eq_true, true_and, and_true, forall_const, false_and, and_false, implies_true, Zce, Zcf, Zcg, Zch, Zci]
    refine CallQ.of _ (hp _).up ?_
    simp (disch := omega) only [hd, Int.toNat_natCast, ↓ZD, ZU, ne_eq, Zaa, Zab, false_implies, Zac, Zad, Zae, Zaf, Zag, Zah, Zai, Zaj, Zak, Zal, Zam, Zan, Zao, Zap, Zaq, Zar, Zas, Zat, Zau, Zav, Zaw, Zax, Zay, Zaz, Za0, Za1, Za2, Za3, Za4, Za5, Za6, Za7, Za8, Za9, Zba, Zbb, Zbc, Zbd, Zbe, Zbf, Zbg, Zbh, Zbi, Zbj, Zbk, Zbl, Zbm, Zbn, Zbo, Zbp, Zbq, Zbr, Zbs, Zbt, Zbu, Zbv, Zbw, Zbx, Zby, Zbz, Zb0, Zb1, Zb2, decide_true, decide_false, Zb3, Zb4, Zb5, Zb6, Zb7, Zb8, Zb9, Zca, Zcb, Zcc, Zcd, beq_self_eq_true, cond_true, cond_false, if_false, if_true, reduceIte, reduceCtorEq, not_true_eq_false, not_false_eq_true, true_and, and_true, forall_const, false_and, and_false, implies_true, Zce, Zcf, Zcg, Zch, Zci]
    refine ⟨fun hc => ?_, fun hc => ?_⟩
    · refine invK.on (i + 1) (⟨by omega, by rw [all_snoc hlt, ha, hc]; rfl⟩) (by omega) (by (simp only [Le_nil, Le_cons]; simp (disch := omega) only [↓ZD, ZU, ne_eq, Zaa, Zab, false_implies, Zac, Zad, Zae, Zaf, Zag, Zah, Zai, Zaj, Zak, Zal, Zam, Zan, Zao, Zap, Zaq, Zar, Zas, Zat, Zau, Zav, Zaw, Zax, Zay, Zaz, Za0, Za1, Za2, Za3, Za4, Za5, Za6, Za7, Za8, Za9, Zba, Zbb, Zbc, Zbd, Zbe, Zbf, Zbg, Zbh, Zbi, Zbj, Zbk, Zbl, Zbm, Zbn, Zbo, Zbp, Zbq, Zbr, Zbs, Zbt, Zbu, Zbv, Zbw, Zbx, Zby, Zbz, Zb0, Zb1, Zb2, decide_true, decide_false, Zb3, Zb4, Zb5, Zb6, Zb7, Zb8, Zb9, Zca, Zcb, Zcc, Zcd, beq_self_eq_true, cond_true, cond_false, if_false, if_true, reduceIte, reduceCtorEq, not_true_eq_false, not_false_eq_true, true_and, and_true, forall_const, false_and, and_false, implies_true, Zce, Zcf, Zcg, Zch, Zci]; try trivial)) (by (simp only [HLe_nil, HLe_cons]; try (simp (disch := omega) only [↓ZD, ZU, ne_eq, Zaa, Zab, false_implies, Zac, Zad, Zae, Zaf, Zag, Zah, Zai, Zaj, Zak, Zal, Zam, Zan, Zao, Zap, Zaq, Zar, Zas, Zat, Zau, Zav, Zaw, Zax, Zay, Zaz, Za0, Za1, Za2, Za3, Za4, Za5, Za6, Za7, Za8, Za9, Zba, Zbb, Zbc, Zbd, Zbe, Zbf, Zbg, Zbh, Zbi, Zbj, Zbk, Zbl, Zbm, Zbn, Zbo, Zbp, Zbq, Zbr, Zbs, Zbt, Zbu, Zbv, Zbw, Zbx, Zby, Zbz, Zb0, Zb1, Zb2, decide_true, decide_false, Zb3, Zb4, Zb5, Zb6, Zb7, Zb8, Zb9, Zca, Zcb, Zcc, Zcd, beq_self_eq_true, cond_true, cond_false, if_false, if_true, reduceIte, reduceCtorEq, not_true_eq_false, not_false_eq_true, true_and, and_true, forall_const, false_and, and_false, implies_true, Zce, Zcf, Zcg, Zch, Zci])))
    · rw [takeWhile_at hlt ha hc]
  · have hd : decide ((i : Int) < (s.length : Int)) = false := by simp; omega
    have : i = s.length := by omega
    subst this
    rw [List.take_length] at ha
    simp (disch := omega) only [hd, ↓ZD, ZU, ne_eq, Zaa, Zab, false_implies, Zac, Zad, Zae, Zaf, Zag, Zah, Zai, Zaj, Zak, Zal, Zam, Zan, Zao, Zap, Zaq, Zar, Zas, Zat, Zau, Zav, Zaw, Zax, Zay, Zaz, Za0, Za1, Za2, Za3, Za4, Za5, Za6, Za7, Za8, Za9, Zba, Zbb, Zbc, Zbd, Zbe, Zbf, Zbg, Zbh, Zbi, Zbj, Zbk, Zbl, Zbm, Zbn, Zbo, Zbp, Zbq, Zbr, Zbs, Zbt, Zbu, Zbv, Zbw, Zbx, Zby, Zbz, Zb0, Zb1, Zb2, decide_true, decide_false, Zb3, Zb4, Zb5, Zb6, Zb7, Zb8, Zb9, Zca, Zcb, Zcc, Zcd, beq_self_eq_true, cond_true, cond_false, if_false, if_true, reduceIte, reduceCtorEq, not_true_eq_false, not_false_eq_true, true_and, and_true, forall_const, false_and, and_false, implies_true, Zce, Zcf, Zcg, Zch, Zci]
    refine CallQ.of (.bool false) trivial ?_
    simp (disch := omega) only [hd, ↓ZD, ZU, ne_eq, Zaa, Zab, false_implies, Zac, Zad, Zae, Zaf, Zag, Zah, Zai, Zaj, Zak, Zal, Zam, Zan, Zao, Zap, Zaq, Zar, Zas, Zat, Zau, Zav, Zaw, Zax, Zay, Zaz, Za0, Za1, Za2, Za3, Za4, Za5, Za6, Za7, Za8, Za9, Zba, Zbb, Zbc, Zbd, Zbe, Zbf, Zbg, Zbh, Zbi, Zbj, Zbk, Zbl, Zbm, Zbn, Zbo, Zbp, Zbq, Zbr, Zbs, Zbt, Zbu, Zbv, Zbw, Zbx, Zby, Zbz, Zb0, Zb1, Zb2, decide_true, decide_false, Zb3, Zb4, Zb5, Zb6, Zb7, Zb8, Zb9, Zca, Zcb, Zcc, Zcd, beq_self_eq_true, cond_true, cond_false, if_false, if_true, reduceIte, reduceCtorEq, not_true_eq_false, not_false_eq_true, true_and, and_true, forall_const, false_and, and_false, implies_true, Zce, Zcf, Zcg, Zch, Zci]
    rw [takeWhile_all ha]
theorem lx_callable_ld : callable Tryd.prog 22 = true := by kernel_rfl
theorem lx_callable_dg : callable Tryd.prog 23 = true := by kernel_rfl
theorem lx_callable_lf : callable Tryd.prog 19 = true := by kernel_rfl
theorem lx_callable_nm : callable Tryd.prog 20 = true := by kernel_rfl
/-- The name at the beginning; none: nothing. -/
def nameX : List UInt8 → List UInt8
  | [] => []
  | c :: r => if isL c = true then c :: r.takeWhile isLD else []
theorem nameX_eq (s : List UInt8) : nameX s = if ((s == []) || !isL (s.getD 0 0)) = true then [] else s.takeWhile isLD := by
  cases s with
  | nil => rfl
  | cons c r =>
    have e : (c :: r == ([] : List UInt8)) = false := rfl
    rw [nameX, List.getD_cons_zero, e, Bool.false_or]
    cases h : isL c with
    | true => rw [if_pos rfl, if_neg (by simp), List.takeWhile_cons, if_pos (isLD_of h)]
    | false => rw [if_neg (by simp)]; rfl
theorem takeWhile_pre (p : UInt8 → Bool) (s : List UInt8) : s.take (s.takeWhile p).length = s.takeWhile p := by
  induction s with
  | nil => rfl
  | cons c r ih =>
    rw [List.takeWhile_cons]; split
    · rw [List.length_cons, List.take_succ_cons, ih]
    · rfl
theorem takeWhile_le (p : UInt8 → Bool) (s : List UInt8) : (s.takeWhile p).length ≤ s.length := by
  rw [← takeWhile_pre p s]; rw [List.length_take]; omega
theorem xname_pure (F : Base) (s : List UInt8) (hs : s.length ≤ 9223372036854775807) : PureV Tryd.prog F 20 #[.string (bs s)] (.string (bs (nameX s))) := by
  refine pureV_of_svc mixed Tryd.func20 low20 (Nat.le_of_ble_eq_true rfl) (fun w0 => ?_)
  rw [nameX_eq]
  simp (disch := omega) only [fu20, ↓ZD, ZU, ne_eq, Zaa, Zab, false_implies, Zac, Zad, Zae, Zaf, Zag, Zah, Zai, Zaj, Zak, Zal, Zam, Zan, Zao, Zap, Zaq, Zar, Zas, Zat, Zau, Zav, Zaw, Zax, Zay, Zaz, Za0, Za1, Za2, Za3, Za4, Za5, Za6, Za7, Za8, Za9, Zba, Zbb, Zbc, Zbd, Zbe, Zbf, Zbg, Zbh, Zbi, Zbj, Zbk, Zbl, Zbm, Zbn, Zbo, Zbp, Zbq, Zbr, Zbs, Zbt, Zbu, Zbv, Zbw, Zbx, Zby, Zbz, Zb0, Zb1, Zb2, decide_true, decide_false, Zb3, Zb4, Zb5, Zb6, Zb7, Zb8, Zb9, Zca, Zcb, Zcc, Zcd, beq_self_eq_true, cond_true, cond_false, if_false, if_true, reduceIte, reduceCtorEq, not_true_eq_false, not_false_eq_true, true_and, and_true, forall_const, false_and, and_false, implies_true, Zce, Zcf, Zcg, Zch, Zci]
  refine conj.of (fun h => by cases s with
    | nil => cases h
    | cons c r => simp only [List.length_cons]; omega) ?_
  simp (disch := omega) only [Int.toNat_zero, ↓ZD, ZU, ne_eq, Zaa, Zab, false_implies, Zac, Zad, Zae, Zaf, Zag, Zah, Zai, Zaj, Zak, Zal, Zam, Zan, Zao, Zap, Zaq, Zar, Zas, Zat, Zau, Zav, Zaw, Zax, Zay, Zaz, Za0, Za1, Za2, Za3, Za4, Za5, Za6, Za7, Za8, Za9, Zba, Zbb, Zbc, Zbd, Zbe, Zbf, Zbg, Zbh, Zbi, Zbj, Zbk, Zbl, Zbm, Zbn, Zbo, Zbp, Zbq, Zbr, Zbs, Zbt, Zbu, Zbv, Zbw, Zbx, Zby, Zbz, Zb0, Zb1, Zb2, decide_true, decide_false, Zb3, Zb4, Zb5, Zb6, Zb7, Zb8, Zb9, Zca, Zcb, Zcc, Zcd, beq_self_eq_true, cond_true, cond_false, if_false, if_true, reduceIte, reduceCtorEq, not_true_eq_false, not_false_eq_true, true_and, and_true, forall_const, false_and, and_false, implies_true, Zce, Zcf, Zcg, Zch, Zci]
  refine CallQ.of _ (fun _ => (xletter_pure F _).up) ?_
  simp (disch := omega) only [↓ZD, ZU, ne_eq, Zaa, Zab, false_implies, Zac, Zad, Zae, Zaf, Zag, Zah, Zai, Zaj, Zak, Zal, Zam, Zan, Zao, Zap, Zaq, Zar, Zas, Zat, Zau, Zav, Zaw, Zax, Zay, Zaz, Za0, Za1, Za2, Za3, Za4, Za5, Za6, Za7, Za8, Za9, Zba, Zbb, Zbc, Zbd, Zbe, Zbf, Zbg, Zbh, Zbi, Zbj, Zbk, Zbl, Zbm, Zbn, Zbo, Zbp, Zbq, Zbr, Zbs, Zbt, Zbu, Zbv, Zbw, Zbx, Zby, Zbz, Zb0, Zb1, Zb2, decide_true, decide_false, Zb3, Zb4, Zb5, Zb6, Zb7, Zb8, Zb9, Zca, Zcb, Zcc, Zcd, beq_self_eq_true, cond_true, cond_false, if_false, if_true, reduceIte, reduceCtorEq, not_true_eq_false, not_false_eq_true, true_and, and_true, forall_const, false_and, and_false, implies_true, Zce, Zcf, Zcg, Zch, Zci]
  refine ⟨fun hc => ?_, fun hc => ?_⟩
  · rw [if_pos hc]
  · rw [if_neg (by rw [hc]; simp)]
    have hl := takeWhile_le isLD s
    refine CallE.pure (row_pure F s _ isLD hs fun c => ⟨22, #[], #[], rfl, lx_callable_ld, ld_pure F c⟩) ?_
    simp (disch := omega) only [↓ZD, ZU, ne_eq, Zaa, Zab, false_implies, Zac, Zad, Zae, Zaf, Zag, Zah, Zai, Zaj, Zak, Zal, Zam, Zan, Zao, Zap, Zaq, Zar, Zas, Zat, Zau, Zav, Zaw, Zax, Zay, Zaz, Za0, Za1, Za2, Za3, Za4, Za5, Za6, Za7, Za8, Za9, Zba, Zbb, Zbc, Zbd, Zbe, Zbf, Zbg, Zbh, Zbi, Zbj, Zbk, Zbl, Zbm, Zbn, Zbo, Zbp, Zbq, Zbr, Zbs, Zbt, Zbu, Zbv, Zbw, Zbx, Zby, Zbz, Zb0, Zb1, Zb2, decide_true, decide_false, Zb3, Zb4, Zb5, Zb6, Zb7, Zb8, Zb9, Zca, Zcb, Zcc, Zcd, beq_self_eq_true, cond_true, cond_false, if_false, if_true, reduceIte, reduceCtorEq, not_true_eq_false, not_false_eq_true, true_and, and_true, forall_const, false_and, and_false, implies_true, Zce, Zcf, Zcg, Zch, Zci]
    refine conj.of (by omega) ?_
    simp (disch := omega) only [Int.toNat_natCast, takeWhile_pre, ↓ZD, ZU, ne_eq, Zaa, Zab, false_implies, Zac, Zad, Zae, Zaf, Zag, Zah, Zai, Zaj, Zak, Zal, Zam, Zan, Zao, Zap, Zaq, Zar, Zas, Zat, Zau, Zav, Zaw, Zax, Zay, Zaz, Za0, Za1, Za2, Za3, Za4, Za5, Za6, Za7, Za8, Za9, Zba, Zbb, Zbc, Zbd, Zbe, Zbf, Zbg, Zbh, Zbi, Zbj, Zbk, Zbl, Zbm, Zbn, Zbo, Zbp, Zbq, Zbr, Zbs, Zbt, Zbu, Zbv, Zbw, Zbx, Zby, Zbz, Zb0, Zb1, Zb2, decide_true, decide_false, Zb3, Zb4, Zb5, Zb6, Zb7, Zb8, Zb9, Zca, Zcb, Zcc, Zcd, beq_self_eq_true, cond_true, cond_false, if_false, if_true, reduceIte, reduceCtorEq, not_true_eq_false, not_false_eq_true, true_and, and_true, forall_const, false_and, and_false, implies_true, Zce, Zcf, Zcg, Zch, Zci]
/-- How many bytes of blanks and remarks are at the beginning. -/
def isB (c : UInt8) : Bool := decide ((0 : Int) ≤ Go.Lib.indexByte [9, 10, 13, 32] c)
def cntB : Nat → List UInt8 → Nat
  | 0, _ => 0
  | _, [] => 0
  | n + 1, c :: r => if isB c = true then cntB n r + 1 else if Go.Lib.hasPrefix (c :: r) [47, 47] = true then
      ((c :: r).takeWhile fun c => ((c.toNat : Int) != 10)).length + cntB n ((c :: r).drop ((c :: r).takeWhile fun c => ((c.toNat : Int) != 10)).length) else 0
theorem has_pure (F : Base) (s p : List UInt8) : PureV Tryd.prog F 17 #[.string (bs s), .string (bs p)] (.bool (Go.Lib.hasPrefix s p)) := by
  refine PureV.of_same fun w => (Tryd.strings_HasPrefix (bs s) (bs p) w).mono ?_
  rintro e w' ⟨rfl, rfl⟩
  exact ⟨rfl, rfl⟩
theorem lf_pos {c : UInt8} {r : List UInt8} (h : Go.Lib.hasPrefix (c :: r) [47, 47] = true) : 1 ≤ ((c :: r).takeWhile fun c => ((c.toNat : Int) != 10)).length := by
  cases r with
  | nil => simp [Go.Lib.hasPrefix, List.isPrefixOf] at h
  | cons d r =>
    simp only [Go.Lib.hasPrefix, List.isPrefixOf, Bool.and_true, Bool.and_eq_true, beq_iff_eq] at h
    rw [← h.1, List.takeWhile_cons, if_pos (by decide)]
    simp
theorem cntB_le : ∀ (n : Nat) (s : List UInt8), cntB n s ≤ s.length
  | 0, s => Nat.zero_le _
  | n + 1, [] => Nat.le_refl _
  | n + 1, c :: r => by
    rw [cntB]
    split
    · have := cntB_le n r; simp only [List.length_cons]; omega
    · split
      · have h1 := cntB_le n ((c :: r).drop ((c :: r).takeWhile fun c => ((c.toNat : Int) != 10)).length)
        have h2 := takeWhile_le (fun c => ((c.toNat : Int) != 10)) (c :: r)
        rw [List.length_drop] at h1; omega
      · omega
/-- The same with more fuel. -/
theorem cntB_fuel : ∀ (n m : Nat) (s : List UInt8), s.length ≤ n → n ≤ m → cntB m s = cntB n s
  | 0, m, s, h, _ => by
    have : s = [] := List.eq_nil_of_length_eq_zero (by omega)
    subst this; cases m <;> rfl
  | n + 1, 0, s, _, h => absurd h (by omega)
  | n + 1, m + 1, [], _, _ => rfl
  | n + 1, m + 1, c :: r, h, hm => by
    rw [cntB, cntB]
    split
    · rw [cntB_fuel n m r (by simpa using h) (by omega)]
    · split
      · rename_i hp
        have h2 := lf_pos hp
        rw [cntB_fuel n m _ (by rw [List.length_drop]; simp only [List.length_cons] at h ⊢; omega) (by omega)]
      · rfl
def blankN (s : List UInt8) : Nat := cntB s.length s
theorem blank_pure (F : Base) (s : List UInt8) (hs : s.length ≤ 1000000000) : PureV Tryd.prog F 12 #[.string (bs s)] (.int .i64 (blankN s)) := by
  refine pureV_of_svc mixed Tryd.func12 low12 (Nat.le_of_ble_eq_true rfl) (fun w0 => ?_)
  simp (disch := omega) only [fu12, ↓ZD, ZU, ne_eq, Zaa, Zab, false_implies, Zac, Zad, Zae, Zaf, Zag, Zah, Zai, Zaj, Zak, Zal, Zam, Zan, Zao, Zap, Zaq, Zar, Zas, Zat, Zau, Zav, Zaw, Zax, Zay, Zaz, Za0, Za1, Za2, Za3, Za4, Za5, Za6, Za7, Za8, Za9, Zba, Zbb, Zbc, Zbd, Zbe, Zbf, Zbg, Zbh, Zbi, Zbj, Zbk, Zbl, Zbm, Zbn, Zbo, Zbp, Zbq, Zbr, Zbs, Zbt, Zbu, Zbv, Zbw, Zbx, Zby, Zbz, Zb0, Zb1, Zb2, decide_true, decide_false, Zb3, Zb4, Zb5, Zb6, Zb7, Zb8, Zb9, Zca, Zcb, Zcc, Zcd, beq_self_eq_true, cond_true, cond_false, if_false, if_true, reduceIte, reduceCtorEq, not_true_eq_false, not_false_eq_true, true_and, and_true, forall_const, false_and, and_false, implies_true, Zce, Zcf, Zcg, Zch, Zci]
  refine LoopL.inv (fun (i : Nat) => i ≤ s.length ∧ blankN s = i + blankN (s.drop i)) (fun i => [(0, some (.string (bs s))), (3, some (.int .i64 i))]) (fun i => []) (fun i => s.length - i) (0) (⟨Nat.zero_le _, by simp⟩) (by (simp only [Le_nil, Le_cons]; simp (disch := omega) only [↓ZD, ZU, ne_eq, Zaa, Zab, false_implies, Zac, Zad, Zae, Zaf, Zag, Zah, Zai, Zaj, Zak, Zal, Zam, Zan, Zao, Zap, Zaq, Zar, Zas, Zat, Zau, Zav, Zaw, Zax, Zay, Zaz, Za0, Za1, Za2, Za3, Za4, Za5, Za6, Za7, Za8, Za9, Zba, Zbb, Zbc, Zbd, Zbe, Zbf, Zbg, Zbh, Zbi, Zbj, Zbk, Zbl, Zbm, Zbn, Zbo, Zbp, Zbq, Zbr, Zbs, Zbt, Zbu, Zbv, Zbw, Zbx, Zby, Zbz, Zb0, Zb1, Zb2, decide_true, decide_false, Zb3, Zb4, Zb5, Zb6, Zb7, Zb8, Zb9, Zca, Zcb, Zcc, Zcd, beq_self_eq_true, cond_true, cond_false, if_false, if_true, reduceIte, reduceCtorEq, not_true_eq_false, not_false_eq_true, true_and, and_true, forall_const, false_and, and_false, implies_true, Zce, Zcf, Zcg, Zch, Zci]; try trivial)) (by (simp only [HLe_nil, HLe_cons]; try (simp (disch := omega) only [↓ZD, ZU, ne_eq, Zaa, Zab, false_implies, Zac, Zad, Zae, Zaf, Zag, Zah, Zai, Zaj, Zak, Zal, Zam, Zan, Zao, Zap, Zaq, Zar, Zas, Zat, Zau, Zav, Zaw, Zax, Zay, Zaz, Za0, Za1, Za2, Za3, Za4, Za5, Za6, Za7, Za8, Za9, Zba, Zbb, Zbc, Zbd, Zbe, Zbf, Zbg, Zbh, Zbi, Zbj, Zbk, Zbl, Zbm, Zbn, Zbo, Zbp, Zbq, Zbr, Zbs, Zbt, Zbu, Zbv, Zbw, Zbx, Zby, Zbz, Zb0, Zb1, Zb2, decide_true, decide_false, Zb3, Zb4, Zb5, Zb6, Zb7, Zb8, Zb9, Zca, Zcb, Zcc, Zcd, beq_self_eq_true, cond_true, cond_false, if_false, if_true, reduceIte, reduceCtorEq, not_true_eq_false, not_false_eq_true, true_and, and_true, forall_const, false_and, and_false, implies_true, Zce, Zcf, Zcg, Zch, Zci]))) ?_
  rintro i ⟨hi, ha⟩
  by_cases hlt : i < s.length
  · have hd : decide ((i : Int) < (s.length : Int)) = true := by simp; omega
    have hg : s.getD i 0 = (s.drop i).getD 0 0 := drop_getD (j := 0)
    obtain ⟨c, r, hcr⟩ : ∃ c r, s.drop i = c :: r := by
      rw [List.drop_eq_getElem_cons hlt]; exact ⟨_, _, rfl⟩
    have hlen : (s.drop i).length = s.length - i := List.length_drop
    have hdr : s.drop (i + 1) = r := by rw [← List.drop_drop, hcr]; rfl
    have hb : blankN (c :: r) = if isB c = true then blankN r + 1 else if Go.Lib.hasPrefix (c :: r) [47, 47] = true then
      ((c :: r).takeWhile fun c => ((c.toNat : Int) != 10)).length + blankN ((c :: r).drop ((c :: r).takeWhile fun c => ((c.toNat : Int) != 10)).length) else 0 := by
      show cntB (r.length + 1) (c :: r) = _
      rw [cntB]
      split
      · rfl
      · split
        · rename_i hp
          have h2 := lf_pos hp
          unfold blankN
          rw [cntB_fuel _ r.length _ (Nat.le_refl _) (by rw [List.length_drop]; simp only [List.length_cons]; omega)]
        · rfl
    rw [hcr] at hlen ha
    rw [hb] at ha
    have hll : ((List.drop i (c :: r)).length = 0 ∨ True) := .inr trivial
    simp (disch := omega) only [hd, Int.toNat_natCast, ↓ZD, ZU, ne_eq, Zaa, Zab, false_implies, Zac, Zad, Zae, Zaf, Zag, Zah, Zai, Zaj, Zak, Zal, Zam, Zan, Zao, Zap, Zaq, Zar, Zas, Zat, Zau, Zav, Zaw, Zax, Zay, Zaz, Za0, Za1, Za2, Za3, Za4, Za5, Za6, Za7, Za8, Za9, Zba, Zbb, Zbc, Zbd, Zbe, Zbf, Zbg, Zbh, Zbi, Zbj, Zbk, Zbl, Zbm, Zbn, Zbo, Zbp, Zbq, Zbr, Zbs, Zbt, Zbu, Zbv, Zbw, Zbx, Zby, Zbz, Zb0, Zb1, Zb2, decide_true, decide_false, Zb3, Zb4, Zb5, Zb6, Zb7, Zb8, Zb9, Zca, Zcb, Zcc, Zcd, beq_self_eq_true, cond_true, cond_false, if_false, if_true, reduceIte, reduceCtorEq, not_true_eq_false, not_false_eq_true, true_and, and_true, forall_const, false_and, and_false, implies_true, Zce, Zcf, Zcg, Zch, Zci]
    refine conj.of (by omega) ?_
    simp (disch := omega) only [Int.toNat_natCast, List.take_length, hcr, ↓ZD, ZU, ne_eq, Zaa, Zab, false_implies, Zac, Zad, Zae, Zaf, Zag, Zah, Zai, Zaj, Zak, Zal, Zam, Zan, Zao, Zap, Zaq, Zar, Zas, Zat, Zau, Zav, Zaw, Zax, Zay, Zaz, Za0, Za1, Za2, Za3, Za4, Za5, Za6, Za7, Za8, Za9, Zba, Zbb, Zbc, Zbd, Zbe, Zbf, Zbg, Zbh, Zbi, Zbj, Zbk, Zbl, Zbm, Zbn, Zbo, Zbp, Zbq, Zbr, Zbs, Zbt, Zbu, Zbv, Zbw, Zbx, Zby, Zbz, Zb0, Zb1, Zb2, decide_true, decide_false, Zb3, Zb4, Zb5, Zb6, Zb7, Zb8, Zb9, Zca, Zcb, Zcc, Zcd, beq_self_eq_true, cond_true, cond_false, if_false, if_true, reduceIte, reduceCtorEq, not_true_eq_false, not_false_eq_true, true_and, and_true, forall_const, false_and, and_false, implies_true, Zce, Zcf, Zcg, Zch, Zci]
    refine conj.of (by omega) ?_
    simp (disch := omega) only [↓ZD, ZU, ne_eq, Zaa, Zab, false_implies, Zac, Zad, Zae, Zaf, Zag, Zah, Zai, Zaj, Zak, Zal, Zam, Zan, Zao, Zap, Zaq, Zar, Zas, Zat, Zau, Zav, Zaw, Zax, Zay, Zaz, Za0, Za1, Za2, Za3, Za4, Za5, Za6, Za7, Za8, Za9, Zba, Zbb, Zbc, Zbd, Zbe, Zbf, Zbg, Zbh, Zbi, Zbj, Zbk, Zbl, Zbm, Zbn, Zbo, Zbp, Zbq, Zbr, Zbs, Zbt, Zbu, Zbv, Zbw, Zbx, Zby, Zbz, Zb0, Zb1, Zb2, decide_true, decide_false, Zb3, Zb4, Zb5, Zb6, Zb7, Zb8, Zb9, Zca, Zcb, Zcc, Zcd, beq_self_eq_true, cond_true, cond_false, if_false, if_true, reduceIte, reduceCtorEq, not_true_eq_false, not_false_eq_true, true_and, and_true, forall_const, false_and, and_false, implies_true, Zce, Zcf, Zcg, Zch, Zci]
    refine CallE.pure (index_pure F [9, 10, 13, 32] c) ?_
    simp (disch := omega) only [↓ZD, ZU, ne_eq, Zaa, Zab, false_implies, Zac, Zad, Zae, Zaf, Zag, Zah, Zai, Zaj, Zak, Zal, Zam, Zan, Zao, Zap, Zaq, Zar, Zas, Zat, Zau, Zav, Zaw, Zax, Zay, Zaz, Za0, Za1, Za2, Za3, Za4, Za5, Za6, Za7, Za8, Za9, Zba, Zbb, Zbc, Zbd, Zbe, Zbf, Zbg, Zbh, Zbi, Zbj, Zbk, Zbl, Zbm, Zbn, Zbo, Zbp, Zbq, Zbr, Zbs, Zbt, Zbu, Zbv, Zbw, Zbx, Zby, Zbz, Zb0, Zb1, Zb2, decide_true, decide_false, Zb3, Zb4, Zb5, Zb6, Zb7, Zb8, Zb9, Zca, Zcb, Zcc, Zcd, beq_self_eq_true, cond_true, cond_false, if_false, if_true, reduceIte, reduceCtorEq, not_true_eq_false, not_false_eq_true, true_and, and_true, forall_const, false_and, and_false, implies_true, Zce, Zcf, Zcg, Zch, Zci]
    refine ⟨fun hc => ?_, fun hc => ?_⟩
    · rw [if_pos (show isB c = true from hc)] at ha
      refine invK.on (i + 1) (⟨by omega, by rw [hdr]; omega⟩) (by omega) (by (simp only [Le_nil, Le_cons]; simp (disch := omega) only [↓ZD, ZU, ne_eq, Zaa, Zab, false_implies, Zac, Zad, Zae, Zaf, Zag, Zah, Zai, Zaj, Zak, Zal, Zam, Zan, Zao, Zap, Zaq, Zar, Zas, Zat, Zau, Zav, Zaw, Zax, Zay, Zaz, Za0, Za1, Za2, Za3, Za4, Za5, Za6, Za7, Za8, Za9, Zba, Zbb, Zbc, Zbd, Zbe, Zbf, Zbg, Zbh, Zbi, Zbj, Zbk, Zbl, Zbm, Zbn, Zbo, Zbp, Zbq, Zbr, Zbs, Zbt, Zbu, Zbv, Zbw, Zbx, Zby, Zbz, Zb0, Zb1, Zb2, decide_true, decide_false, Zb3, Zb4, Zb5, Zb6, Zb7, Zb8, Zb9, Zca, Zcb, Zcc, Zcd, beq_self_eq_true, cond_true, cond_false, if_false, if_true, reduceIte, reduceCtorEq, not_true_eq_false, not_false_eq_true, true_and, and_true, forall_const, false_and, and_false, implies_true, Zce, Zcf, Zcg, Zch, Zci]; try trivial)) (by (simp only [HLe_nil, HLe_cons]; try (simp (disch := omega) only [↓ZD, ZU, ne_eq, Zaa, Zab, false_implies, Zac, Zad, Zae, Zaf, Zag, Zah, Zai, Zaj, Zak, Zal, Zam, Zan, Zao, Zap, Zaq, Zar, Zas, Zat, Zau, Zav, Zaw, Zax, Zay, Zaz, Za0, Za1, Za2, Za3, Za4, Za5, Za6, Za7, Za8, Za9, Zba, Zbb, Zbc, Zbd, Zbe, Zbf, Zbg, Zbh, Zbi, Zbj, Zbk, Zbl, Zbm, Zbn, Zbo, Zbp, Zbq, Zbr, Zbs, Zbt, Zbu, Zbv, Zbw, Zbx, Zby, Zbz, Zb0, Zb1, Zb2, decide_true, decide_false, Zb3, Zb4, Zb5, Zb6, Zb7, Zb8, Zb9, Zca, Zcb, Zcc, Zcd, beq_self_eq_true, cond_true, cond_false, if_false, if_true, reduceIte, reduceCtorEq, not_true_eq_false, not_false_eq_true, true_and, and_true, forall_const, false_and, and_false, implies_true, Zce, Zcf, Zcg, Zch, Zci])))
    · rw [if_neg (by rw [isB, hc]; simp)] at ha
      refine CallE.pure (has_pure F (c :: r) [47, 47]) ?_
      simp (disch := omega) only [↓ZD, ZU, ne_eq, Zaa, Zab, false_implies, Zac, Zad, Zae, Zaf, Zag, Zah, Zai, Zaj, Zak, Zal, Zam, Zan, Zao, Zap, Zaq, Zar, Zas, Zat, Zau, Zav, Zaw, Zax, Zay, Zaz, Za0, Za1, Za2, Za3, Za4, Za5, Za6, Za7, Za8, Za9, Zba, Zbb, Zbc, Zbd, Zbe, Zbf, Zbg, Zbh, Zbi, Zbj, Zbk, Zbl, Zbm, Zbn, Zbo, Zbp, Zbq, Zbr, Zbs, Zbt, Zbu, Zbv, Zbw, Zbx, Zby, Zbz, Zb0, Zb1, Zb2, decide_true, decide_false, Zb3, Zb4, Zb5, Zb6, Zb7, Zb8, Zb9, Zca, Zcb, Zcc, Zcd, beq_self_eq_true, cond_true, cond_false, if_false, if_true, reduceIte, reduceCtorEq, not_true_eq_false, not_false_eq_true, true_and, and_true, forall_const, false_and, and_false, implies_true, Zce, Zcf, Zcg, Zch, Zci]
      refine ⟨fun hp => ?_, fun hp => ?_⟩
      · rw [if_pos hp] at ha
        have h2 := lf_pos hp
        have h3 := takeWhile_le (fun c => ((c.toNat : Int) != 10)) (c :: r)
        refine CallE.pure (row_pure F (c :: r) _ (fun c => ((c.toNat : Int) != 10)) (by omega) fun c => ⟨19, #[], #[], rfl, lx_callable_lf, notlf_pure F c⟩) ?_
        revert ha h2 h3
        generalize ((c :: r).takeWhile fun c => ((c.toNat : Int) != 10)).length = k
        intro ha h2 h3
        simp (disch := omega) only [↓ZD, ZU, ne_eq, Zaa, Zab, false_implies, Zac, Zad, Zae, Zaf, Zag, Zah, Zai, Zaj, Zak, Zal, Zam, Zan, Zao, Zap, Zaq, Zar, Zas, Zat, Zau, Zav, Zaw, Zax, Zay, Zaz, Za0, Za1, Za2, Za3, Za4, Za5, Za6, Za7, Za8, Za9, Zba, Zbb, Zbc, Zbd, Zbe, Zbf, Zbg, Zbh, Zbi, Zbj, Zbk, Zbl, Zbm, Zbn, Zbo, Zbp, Zbq, Zbr, Zbs, Zbt, Zbu, Zbv, Zbw, Zbx, Zby, Zbz, Zb0, Zb1, Zb2, decide_true, decide_false, Zb3, Zb4, Zb5, Zb6, Zb7, Zb8, Zb9, Zca, Zcb, Zcc, Zcd, beq_self_eq_true, cond_true, cond_false, if_false, if_true, reduceIte, reduceCtorEq, not_true_eq_false, not_false_eq_true, true_and, and_true, forall_const, false_and, and_false, implies_true, Zce, Zcf, Zcg, Zch, Zci]
        refine invK.on (i + k) (⟨by omega, by rw [← List.drop_drop, hcr]; omega⟩) (by omega) (by (simp only [Le_nil, Le_cons]; simp (disch := omega) only [↓ZD, ZU, ne_eq, Zaa, Zab, false_implies, Zac, Zad, Zae, Zaf, Zag, Zah, Zai, Zaj, Zak, Zal, Zam, Zan, Zao, Zap, Zaq, Zar, Zas, Zat, Zau, Zav, Zaw, Zax, Zay, Zaz, Za0, Za1, Za2, Za3, Za4, Za5, Za6, Za7, Za8, Za9, Zba, Zbb, Zbc, Zbd, Zbe, Zbf, Zbg, Zbh, Zbi, Zbj, Zbk, Zbl, Zbm, Zbn, Zbo, Zbp, Zbq, Zbr, Zbs, Zbt, Zbu, Zbv, Zbw, Zbx, Zby, Zbz, Zb0, Zb1, Zb2, decide_true, decide_false, Zb3, Zb4, Zb5, Zb6, Zb7, Zb8, Zb9, Zca, Zcb, Zcc, Zcd, beq_self_eq_true, cond_true, cond_false, if_false, if_true, reduceIte, reduceCtorEq, not_true_eq_false, not_false_eq_true, true_and, and_true, forall_const, false_and, and_false, implies_true, Zce, Zcf, Zcg, Zch, Zci]; try trivial)) (by (simp only [HLe_nil, HLe_cons]; try (simp (disch := omega) only [↓ZD, ZU, ne_eq, Zaa, Zab, false_implies, Zac, Zad, Zae, Zaf, Zag, Zah, Zai, Zaj, Zak, Zal, Zam, Zan, Zao, Zap, Zaq, Zar, Zas, Zat, Zau, Zav, Zaw, Zax, Zay, Zaz, Za0, Za1, Za2, Za3, Za4, Za5, Za6, Za7, Za8, Za9, Zba, Zbb, Zbc, Zbd, Zbe, Zbf, Zbg, Zbh, Zbi, Zbj, Zbk, Zbl, Zbm, Zbn, Zbo, Zbp, Zbq, Zbr, Zbs, Zbt, Zbu, Zbv, Zbw, Zbx, Zby, Zbz, Zb0, Zb1, Zb2, decide_true, decide_false, Zb3, Zb4, Zb5, Zb6, Zb7, Zb8, Zb9, Zca, Zcb, Zcc, Zcd, beq_self_eq_true, cond_true, cond_false, if_false, if_true, reduceIte, reduceCtorEq, not_true_eq_false, not_false_eq_true, true_and, and_true, forall_const, false_and, and_false, implies_true, Zce, Zcf, Zcg, Zch, Zci])))
      · rw [if_neg (by rw [hp]; simp)] at ha
        have : blankN s = i := by omega
        rw [this]
  · have hd : decide ((i : Int) < (s.length : Int)) = false := by simp; omega
    have : i = s.length := by omega
    subst this
    rw [List.drop_length] at ha
    have : blankN s = s.length := ha
    simp (disch := omega) only [hd, this, ↓ZD, ZU, ne_eq, Zaa, Zab, false_implies, Zac, Zad, Zae, Zaf, Zag, Zah, Zai, Zaj, Zak, Zal, Zam, Zan, Zao, Zap, Zaq, Zar, Zas, Zat, Zau, Zav, Zaw, Zax, Zay, Zaz, Za0, Za1, Za2, Za3, Za4, Za5, Za6, Za7, Za8, Za9, Zba, Zbb, Zbc, Zbd, Zbe, Zbf, Zbg, Zbh, Zbi, Zbj, Zbk, Zbl, Zbm, Zbn, Zbo, Zbp, Zbq, Zbr, Zbs, Zbt, Zbu, Zbv, Zbw, Zbx, Zby, Zbz, Zb0, Zb1, Zb2, decide_true, decide_false, Zb3, Zb4, Zb5, Zb6, Zb7, Zb8, Zb9, Zca, Zcb, Zcc, Zcd, beq_self_eq_true, cond_true, cond_false, if_false, if_true, reduceIte, reduceCtorEq, not_true_eq_false, not_false_eq_true, true_and, and_true, forall_const, false_and, and_false, implies_true, Zce, Zcf, Zcg, Zch, Zci]
end Go.Proofs.YtndnpmlhofijjaaDoor
