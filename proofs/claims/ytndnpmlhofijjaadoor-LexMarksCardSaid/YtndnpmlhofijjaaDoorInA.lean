/- Layer 1: what the functions of package ints, and the small ones of its reference, compute. -/
import Derived.Test.YtndnpmlhofijjaaDoorTxG
namespace Go.Proofs.YtndnpmlhofijjaaDoor
open Go Go.Eng
open Int renaming reduceEq → Zaa, cast_ofNat_Int → Zac, reduceToNat → Zbu, toNat_zero → Zbv, toNat_one → Zbw, reduceLE → Zbx, reduceLT → Zby, reduceAdd → Zbz, reduceSub → Zb0, reduceNeg → Zb1, zero_add → Zb2, reducePow → Zcg, reduceNegSucc → Zci
open UInt8 renaming reduceOfNat → Zab
open List renaming toList_toArray → Zad, length_append → Zag, cons_append → Zav, nil_append → Zaw, length_cons → Zax, length_nil → Zay, drop_zero → Zaz, drop_succ_cons → Za0, take_succ_cons → Za1, take_zero → Za2, drop_nil → Za3, take_nil → Za4, append_nil → Za5, all_cons → Za6, all_nil → Za7, isEmpty_cons → Za8, size_toArray → Za9, getElem?_toArray → Zba, getElem?_cons_zero → Zbb, getElem?_cons_succ → Zbc, getD_cons_zero → Zbd, getD_cons_succ → Zbe, mapM_cons → Zbf, mapM_nil → Zbg
open Option renaming getD_some → Zae, getD_none → Zaf, map_some → Zar, map_none → Zas, bind_some → Zat, bind_none → Zau
open Nat renaming le_add_right → Zah, reduceAdd → Zbi, reduceMul → Zbj, reduceMod → Zbk, reduceDiv → Zbl, reduceEqDiff → Zbm, reduceBEq → Zbn, reduceLeDiff → Zbo, reduceSub → Zbp, zero_add → Zbq, add_zero → Zbr, le_refl → Zbs, zero_le → Zbt, reducePow → Zcf, reduceLT → Zch
open Go.Eng renaming subG → Zai, lit → Zaj, isPar → Zak, numb → Zal, Wf → Zam, resV → Zan, oneCell → Zao, isB → Zap, asB → Zaq
open Go.Value renaming cells → Zbh
open Bool renaming and_true → Zb3, true_and → Zb4, and_self → Zb5, not_true → Zb6, not_false → Zb7, and_false → Zb8, or_false → Zb9, or_true → Zca, true_or → Zcb, false_or → Zcc, false_and → Zcd, false_eq_true → Zce
set_option linter.unusedSimpArgs false
set_option linter.unusedVariables false
set_option maxRecDepth 20000

def I64 (a : Int) : Prop := -9223372036854775808 ≤ a ∧ a ≤ 9223372036854775807
def fitR (x : Int) : Int × Int := if -9223372036854775808 ≤ x ∧ x ≤ 9223372036854775807 then (x, 0) else (0, 14)
def pr (p : Int × Int) : Value := .tuple #[.int .i64 p.1, .int .i64 p.2]
def size (a : Int) : Int := if a < 0 then -a else a

theorem fit_yes {x y : Int} (h : I64 x) (e : y = x) : Value.tuple #[.int .i64 y, .int .i64 0] = pr (fitR x) := by
  unfold I64 at h; unfold pr fitR; rw [if_pos h, e]
theorem fit_no {x : Int} (h : ¬ I64 x) : Value.tuple #[.int .i64 0, .int .i64 14] = pr (fitR x) := by
  unfold I64 at h; unfold pr fitR; rw [if_neg h]

theorem number_pure (F : Base) (m : Bool) (n : Int) (hn : 0 ≤ n ∧ n ≤ 18446744073709551615) : PureV Tryd.prog F 39 #[.bool m, .int .u64 n] (pr (fitR (if m then -n else n))) := by
  refine pureV_of_svc mixed Tryd.func39 low39 (Nat.le_of_ble_eq_true rfl) (fun w0 => ?_)
  simp (disch := omega) only [fu39, ↓ZD, ZU, ne_eq, Zaa, Zab, false_implies, Zac, Zad, Zae, Zaf, Zag, Zah, Zai, Zaj, Zak, Zal, Zam, Zan, Zao, Zap, Zaq, Zar, Zas, Zat, Zau, Zav, Zaw, Zax, Zay, Zaz, Za0, Za1, Za2, Za3, Za4, Za5, Za6, Za7, Za8, Za9, Zba, Zbb, Zbc, Zbd, Zbe, Zbf, Zbg, Zbh, Zbi, Zbj, Zbk, Zbl, Zbm, Zbn, Zbo, Zbp, Zbq, Zbr, Zbs, Zbt, Zbu, Zbv, Zbw, Zbx, Zby, Zbz, Zb0, Zb1, Zb2, decide_true, decide_false, Zb3, Zb4, Zb5, Zb6, Zb7, Zb8, Zb9, Zca, Zcb, Zcc, Zcd, beq_self_eq_true, cond_true, cond_false, if_false, if_true, reduceIte, reduceCtorEq, not_true_eq_false, not_false_eq_true, true_and, and_true, forall_const, false_and, and_false, implies_true, Zce, Zcf, Zcg, Zch, Zci]
  cases m
  · simp only [Bool.false_and, Bool.not_false, Bool.true_and, Bool.false_eq_true, false_implies, true_and, forall_const, if_false, decide_eq_true_eq, decide_eq_false_iff_not]
    refine ⟨fun h => fit_yes ?_ ?_, fun h => fit_no ?_⟩ <;> (try rw [wrap_i64]) <;> (try unfold I64) <;> omega
  · simp only [Bool.true_and, Bool.not_true, Bool.false_and, Bool.false_eq_true, false_implies, true_and, forall_const, if_true, decide_eq_true_eq, decide_eq_false_iff_not]
    refine ⟨fun h => fit_yes ?_ ?_, fun h => fit_no ?_⟩ <;> (try rw [wrap_i64, wrap_i64]) <;> (try unfold I64) <;> omega

def Dg (d : Int) : Prop := 0 ≤ d ∧ d < 4294967296
def val (d0 d1 d2 d3 : Int) : Int := d0 * 79228162514264337593543950336 + d1 * 18446744073709551616 + d2 * 4294967296 + d3
def arr (d0 d1 d2 d3 : Int) : Value := .agg #[.int .u64 d0, .int .u64 d1, .int .u64 d2, .int .u64 d3]
def nn (m : Bool) (d0 d1 d2 d3 : Int) : Value := .agg #[.bool m, .int .u64 d0, .int .u64 d1, .int .u64 d2, .int .u64 d3]

theorem fit_pure (F : Base) (m : Bool) (d0 d1 d2 d3 : Int) (h0 : Dg d0) (h1 : Dg d1) (h2 : Dg d2) (h3 : Dg d3) : PureV Tryd.prog F 42 #[nn m d0 d1 d2 d3] (pr (fitR (if m then -val d0 d1 d2 d3 else val d0 d1 d2 d3))) := by
  unfold Dg at h0 h1 h2 h3
  refine pureV_of_svc mixed Tryd.func42 low42 (Nat.le_of_ble_eq_true rfl) (fun w0 => ?_)
  simp (disch := omega) only [fu42, nn, ↓ZD, ZU, ne_eq, Zaa, Zab, false_implies, Zac, Zad, Zae, Zaf, Zag, Zah, Zai, Zaj, Zak, Zal, Zam, Zan, Zao, Zap, Zaq, Zar, Zas, Zat, Zau, Zav, Zaw, Zax, Zay, Zaz, Za0, Za1, Za2, Za3, Za4, Za5, Za6, Za7, Za8, Za9, Zba, Zbb, Zbc, Zbd, Zbe, Zbf, Zbg, Zbh, Zbi, Zbj, Zbk, Zbl, Zbm, Zbn, Zbo, Zbp, Zbq, Zbr, Zbs, Zbt, Zbu, Zbv, Zbw, Zbx, Zby, Zbz, Zb0, Zb1, Zb2, decide_true, decide_false, Zb3, Zb4, Zb5, Zb6, Zb7, Zb8, Zb9, Zca, Zcb, Zcc, Zcd, beq_self_eq_true, cond_true, cond_false, if_false, if_true, reduceIte, reduceCtorEq, not_true_eq_false, not_false_eq_true, true_and, and_true, forall_const, false_and, and_false, implies_true, Zce, Zcf, Zcg, Zch, Zci]
  refine NewB.of fun b1 hb1 hF1 => ?_
  simp (disch := omega) only [hF1, ↓ZD, ZU, ne_eq, Zaa, Zab, false_implies, Zac, Zad, Zae, Zaf, Zag, Zah, Zai, Zaj, Zak, Zal, Zam, Zan, Zao, Zap, Zaq, Zar, Zas, Zat, Zau, Zav, Zaw, Zax, Zay, Zaz, Za0, Za1, Za2, Za3, Za4, Za5, Za6, Za7, Za8, Za9, Zba, Zbb, Zbc, Zbd, Zbe, Zbf, Zbg, Zbh, Zbi, Zbj, Zbk, Zbl, Zbm, Zbn, Zbo, Zbp, Zbq, Zbr, Zbs, Zbt, Zbu, Zbv, Zbw, Zbx, Zby, Zbz, Zb0, Zb1, Zb2, decide_true, decide_false, Zb3, Zb4, Zb5, Zb6, Zb7, Zb8, Zb9, Zca, Zcb, Zcc, Zcd, beq_self_eq_true, cond_true, cond_false, if_false, if_true, reduceIte, reduceCtorEq, not_true_eq_false, not_false_eq_true, true_and, and_true, forall_const, false_and, and_false, implies_true, Zce, Zcf, Zcg, Zch, Zci]
  unfold val
  cases m <;> simp only [Bool.false_and, Bool.true_and, Bool.false_or, Bool.true_or, Bool.or_eq_true, Bool.or_eq_false_iff, Bool.false_eq_true, false_implies, true_and, forall_const, if_false, if_true, decide_eq_true_eq, decide_eq_false_iff_not]
  · refine ⟨fun h => fit_no ?_, fun h => ⟨fun h' => fit_no ?_, fun h' => fit_yes ?_ ?_⟩⟩ <;> (try rw [wrap_i64]) <;> (try unfold I64) <;> omega
  · refine ⟨fun h => fit_no ?_, fun h => ⟨fun h' => fit_yes ?_ ?_, fun h' => ⟨fit_no ?_, fun h => (by cases h)⟩⟩⟩ <;> (try rw [wrap_i64, wrap_u64]) <;> (try unfold I64) <;> omega

theorem plus_pure (F : Base) (d0 d1 d2 d3 e0 e1 e2 e3 : Int) (h0 : Dg d0) (h1 : Dg d1) (h2 : Dg d2) (h3 : Dg d3) (k0 : Dg e0) (k1 : Dg e1) (k2 : Dg e2) (k3 : Dg e3) (hs : val d0 d1 d2 d3 + val e0 e1 e2 e3 < 340282366920938463463374607431768211456) :
    ∃ r0 r1 r2 r3, Dg r0 ∧ Dg r1 ∧ Dg r2 ∧ Dg r3 ∧ val r0 r1 r2 r3 = val d0 d1 d2 d3 + val e0 e1 e2 e3 ∧ PureV Tryd.prog F 41 #[arr d0 d1 d2 d3, arr e0 e1 e2 e3] (arr r0 r1 r2 r3) := by
  unfold Dg at h0 h1 h2 h3 k0 k1 k2 k3
  obtain ⟨c3, hc3⟩ : ∃ c, c = d3 + e3 := ⟨_, rfl⟩
  obtain ⟨c2, hc2⟩ : ∃ c, c = c3 / 4294967296 + (d2 + e2) := ⟨_, rfl⟩
  obtain ⟨c1, hc1⟩ : ∃ c, c = c2 / 4294967296 + (d1 + e1) := ⟨_, rfl⟩
  obtain ⟨c0, hc0⟩ : ∃ c, c = c1 / 4294967296 + (d0 + e0) := ⟨_, rfl⟩
  refine ⟨c0 % 4294967296, c1 % 4294967296, c2 % 4294967296, c3 % 4294967296, ?_, ?_, ?_, ?_, ?_, ?_⟩
  · unfold Dg; omega
  · unfold Dg; omega
  · unfold Dg; omega
  · unfold Dg; omega
  · unfold val at hs ⊢; omega
  refine pureV_of_svc mixed Tryd.func41 low41 (Nat.le_of_ble_eq_true rfl) (fun w0 => ?_)
  simp (disch := omega) only [fu41, arr, ↓ZD, ZU, ne_eq, Zaa, Zab, false_implies, Zac, Zad, Zae, Zaf, Zag, Zah, Zai, Zaj, Zak, Zal, Zam, Zan, Zao, Zap, Zaq, Zar, Zas, Zat, Zau, Zav, Zaw, Zax, Zay, Zaz, Za0, Za1, Za2, Za3, Za4, Za5, Za6, Za7, Za8, Za9, Zba, Zbb, Zbc, Zbd, Zbe, Zbf, Zbg, Zbh, Zbi, Zbj, Zbk, Zbl, Zbm, Zbn, Zbo, Zbp, Zbq, Zbr, Zbs, Zbt, Zbu, Zbv, Zbw, Zbx, Zby, Zbz, Zb0, Zb1, Zb2, decide_true, decide_false, Zb3, Zb4, Zb5, Zb6, Zb7, Zb8, Zb9, Zca, Zcb, Zcc, Zcd, beq_self_eq_true, cond_true, cond_false, if_false, if_true, reduceIte, reduceCtorEq, not_true_eq_false, not_false_eq_true, true_and, and_true, forall_const, false_and, and_false, implies_true, Zce, Zcf, Zcg, Zch, Zci]
  refine NewB.of fun b1 hb1 hF1 => ?_
  simp (disch := omega) only [hF1, ↓ZD, ZU, ne_eq, Zaa, Zab, false_implies, Zac, Zad, Zae, Zaf, Zag, Zah, Zai, Zaj, Zak, Zal, Zam, Zan, Zao, Zap, Zaq, Zar, Zas, Zat, Zau, Zav, Zaw, Zax, Zay, Zaz, Za0, Za1, Za2, Za3, Za4, Za5, Za6, Za7, Za8, Za9, Zba, Zbb, Zbc, Zbd, Zbe, Zbf, Zbg, Zbh, Zbi, Zbj, Zbk, Zbl, Zbm, Zbn, Zbo, Zbp, Zbq, Zbr, Zbs, Zbt, Zbu, Zbv, Zbw, Zbx, Zby, Zbz, Zb0, Zb1, Zb2, decide_true, decide_false, Zb3, Zb4, Zb5, Zb6, Zb7, Zb8, Zb9, Zca, Zcb, Zcc, Zcd, beq_self_eq_true, cond_true, cond_false, if_false, if_true, reduceIte, reduceCtorEq, not_true_eq_false, not_false_eq_true, true_and, and_true, forall_const, false_and, and_false, implies_true, Zce, Zcf, Zcg, Zch, Zci]
  refine NewB.of fun b2 hb2 hF2 => ?_
  simp (disch := omega) only [hF1, hF2, ↓ZD, ZU, ne_eq, Zaa, Zab, false_implies, Zac, Zad, Zae, Zaf, Zag, Zah, Zai, Zaj, Zak, Zal, Zam, Zan, Zao, Zap, Zaq, Zar, Zas, Zat, Zau, Zav, Zaw, Zax, Zay, Zaz, Za0, Za1, Za2, Za3, Za4, Za5, Za6, Za7, Za8, Za9, Zba, Zbb, Zbc, Zbd, Zbe, Zbf, Zbg, Zbh, Zbi, Zbj, Zbk, Zbl, Zbm, Zbn, Zbo, Zbp, Zbq, Zbr, Zbs, Zbt, Zbu, Zbv, Zbw, Zbx, Zby, Zbz, Zb0, Zb1, Zb2, decide_true, decide_false, Zb3, Zb4, Zb5, Zb6, Zb7, Zb8, Zb9, Zca, Zcb, Zcc, Zcd, beq_self_eq_true, cond_true, cond_false, if_false, if_true, reduceIte, reduceCtorEq, not_true_eq_false, not_false_eq_true, true_and, and_true, forall_const, false_and, and_false, implies_true, Zce, Zcf, Zcg, Zch, Zci]
  refine NewB.of fun b3 hb3 hF3 => ?_
  simp only [List.forall_mem_cons, List.not_mem_nil] at hb2 hb3
  simp (disch := omega) only [hF1, hF2, hF3, ↓ZD, ZU, ne_eq, Zaa, Zab, false_implies, Zac, Zad, Zae, Zaf, Zag, Zah, Zai, Zaj, Zak, Zal, Zam, Zan, Zao, Zap, Zaq, Zar, Zas, Zat, Zau, Zav, Zaw, Zax, Zay, Zaz, Za0, Za1, Za2, Za3, Za4, Za5, Za6, Za7, Za8, Za9, Zba, Zbb, Zbc, Zbd, Zbe, Zbf, Zbg, Zbh, Zbi, Zbj, Zbk, Zbl, Zbm, Zbn, Zbo, Zbp, Zbq, Zbr, Zbs, Zbt, Zbu, Zbv, Zbw, Zbx, Zby, Zbz, Zb0, Zb1, Zb2, decide_true, decide_false, Zb3, Zb4, Zb5, Zb6, Zb7, Zb8, Zb9, Zca, Zcb, Zcc, Zcd, beq_self_eq_true, cond_true, cond_false, if_false, if_true, reduceIte, reduceCtorEq, not_true_eq_false, not_false_eq_true, true_and, and_true, forall_const, false_and, and_false, implies_true, Zce, Zcf, Zcg, Zch, Zci]
  refine LoopL.go 5 ?_
  simp (disch := omega) only [hF1, hF2, hF3, ↓ZD, ZU, ne_eq, Zaa, Zab, false_implies, Zac, Zad, Zae, Zaf, Zag, Zah, Zai, Zaj, Zak, Zal, Zam, Zan, Zao, Zap, Zaq, Zar, Zas, Zat, Zau, Zav, Zaw, Zax, Zay, Zaz, Za0, Za1, Za2, Za3, Za4, Za5, Za6, Za7, Za8, Za9, Zba, Zbb, Zbc, Zbd, Zbe, Zbf, Zbg, Zbh, Zbi, Zbj, Zbk, Zbl, Zbm, Zbn, Zbo, Zbp, Zbq, Zbr, Zbs, Zbt, Zbu, Zbv, Zbw, Zbx, Zby, Zbz, Zb0, Zb1, Zb2, decide_true, decide_false, Zb3, Zb4, Zb5, Zb6, Zb7, Zb8, Zb9, Zca, Zcb, Zcc, Zcd, beq_self_eq_true, cond_true, cond_false, if_false, if_true, reduceIte, reduceCtorEq, not_true_eq_false, not_false_eq_true, true_and, and_true, forall_const, false_and, and_false, implies_true, Zce, Zcf, Zcg, Zch, Zci]
  rw [hc0, hc1, hc2, hc3]
end Go.Proofs.YtndnpmlhofijjaaDoor
