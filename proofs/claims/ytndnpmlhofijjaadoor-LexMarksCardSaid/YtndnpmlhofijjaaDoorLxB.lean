/- Layer 7: one word. -/
import Derived.Test.YtndnpmlhofijjaaDoorLxA
namespace Go.Proofs.YtndnpmlhofijjaaDoor
open Go Go.Eng
open Int renaming reduceEq → Zaa, cast_ofNat_Int → Zac, reduceToNat → Zbu, toNat_zero → Zbv, toNat_one → Zbw, reduceLE → Zbx, reduceLT → Zby, reduceAdd → Zbz, reduceSub → Zb0, reduceNeg → Zb1, zero_add → Zb2, reducePow → Zcg, reduceNegSucc → Zci
open UInt8 renaming reduceOfNat → Zab
open List renaming toList_toArray → Zad, length_append → Zag, cons_append → Zav, nil_append → Zaw, length_cons → Zax, length_nil → Zay, drop_zero → Zaz, drop_succ_cons → Za0, take_succ_cons → Za1, take_zero → Za2, drop_nil → Za3, take_nil → Za4, append_nil → Za5, all_cons → Za6, all_nil → Za7, isEmpty_cons → Za8, size_toArray → Za9, getElem?_toArray → Zba, getElem?_cons_zero → Zbb, getElem?_cons_succ → Zbc, getD_cons_zero → Zbd, getD_cons_succ → Zbe, mapM_cons → Zbf, mapM_nil → Zbg
open Option renaming getD_some → Zae, getD_none → Zaf, map_some → Zar, map_none → Zas, bind_some → Zat, bind_none → Zau
open Nat renaming le_add_right → Zah, reduceAdd → Zbi, reduceMul → Zbj, reduceMod → Zbk, reduceDiv → Zbl, reduceEqDiff → Zbm, reduceBEq → Zbn, reduceLeDiff → Zbo, reduceSub → Zbp, zero_add → Zbq, add_zero → Zbr, le_refl → Zbs, zero_le → Zbt, reducePow → Zcf, reduceLT → Zch
open Go.Eng renaming subG → Zai, lit → Zaj, isPar → Zak, numb → Zal, Wf → Zam, resV → Zan, oneCell → Zao, isB → Zap, asB → Zaq
open Go.Value renaming cells → Zbh
open Bool renaming and_true → Zb3, true_and → Zb4, and_self → Zb5, not_true → Zb6, not_false → Zb7, and_false → Zb8, or_false → Zb9, or_true → Zca, true_or → Zcb, false_or → Zcc, false_and → Zcd, false_eq_true → Zce
set_option linter.unusedSimpArgs false
set_option linter.unusedVariables false
set_option maxRecDepth 20000

/-- How many bytes until the quote that closes, with it. -/
def clo : Bool → List UInt8 → Option Nat
  | _, [] => none
  | o, c :: r => if ((c == 34) && !o) = true then some 1 else (clo ((c == 92) && !o) r).map (· + 1)
theorem clo_skip {d : UInt8} {r : List UInt8} : clo true (d :: r) = (clo false r).map (· + 1) := by
  rw [clo]; simp
theorem clo_le : ∀ (r : List UInt8) (o : Bool) (k : Nat), clo o r = some k → k ≤ r.length
  | [], o, k, h => by cases h
  | c :: r, o, k, h => by
    rw [clo] at h
    split at h
    · injection h with h; subst h; simp
    · obtain ⟨m, hm, rfl⟩ := Option.map_eq_some_iff.mp h
      have := clo_le r _ m hm
      simp only [List.length_cons]; omega
theorem eqC {c d : UInt8} {n : Int} (h : ((c.toNat : Int) == n) = true) (hd : n = (d.toNat : Int) := by rfl) : c = d := by
  have h : (c.toNat : Int) = n := by simpa using h
  exact UInt8.toNat_inj.mp (by omega)
theorem neC {c d : UInt8} {n : Int} (h : ((c.toNat : Int) == n) = false) (hd : n = (d.toNat : Int) := by rfl) : c ≠ d := by
  have h : ¬ (c.toNat : Int) = n := by simpa using h
  rintro rfl
  omega
def qX (s : List UInt8) : List UInt8 × Nat := match clo false (s.drop 1) with
  | none => ([], 0)
  | some k => match unquote (s.take (k + 1)) with
    | none => ([], 0)
    | some t => (t, k + 1)
theorem quoted_pure (F : Base) (s : List UInt8) (hs : s.length ≤ 1000000000) : PureV Tryd.prog F 25 #[.string (bs s)] (.tuple #[.string (bs (qX s).1), .int .i64 (qX s).2]) := by
  refine pureV_of_svc mixed Tryd.func25 low25 (Nat.le_of_ble_eq_true rfl) (fun w0 => ?_)
  simp (disch := omega) only [fu25, ↓ZD, ZU, ne_eq, Zaa, Zab, false_implies, Zac, Zad, Zae, Zaf, Zag, Zah, Zai, Zaj, Zak, Zal, Zam, Zan, Zao, Zap, Zaq, Zar, Zas, Zat, Zau, Zav, Zaw, Zax, Zay, Zaz, Za0, Za1, Za2, Za3, Za4, Za5, Za6, Za7, Za8, Za9, Zba, Zbb, Zbc, Zbd, Zbe, Zbf, Zbg, Zbh, Zbi, Zbj, Zbk, Zbl, Zbm, Zbn, Zbo, Zbp, Zbq, Zbr, Zbs, Zbt, Zbu, Zbv, Zbw, Zbx, Zby, Zbz, Zb0, Zb1, Zb2, decide_true, decide_false, Zb3, Zb4, Zb5, Zb6, Zb7, Zb8, Zb9, Zca, Zcb, Zcc, Zcd, beq_self_eq_true, cond_true, cond_false, if_false, if_true, reduceIte, reduceCtorEq, not_true_eq_false, not_false_eq_true, true_and, and_true, forall_const, false_and, and_false, implies_true, Zce, Zcf, Zcg, Zch, Zci]
  refine LoopL.inv (fun (n : Nat) => 1 ≤ n ∧ n ≤ s.length + 1 ∧ clo false (s.drop 1) = (clo false (s.drop n)).map (· + (n - 1))) (fun n => [(0, some (.string (bs s))), (4, some (.int .i64 n))]) (fun n => []) (fun n => s.length + 1 - n) (1) (⟨Nat.le_refl _, by omega, by simp⟩) (by (simp only [Le_nil, Le_cons]; simp (disch := omega) only [↓ZD, ZU, ne_eq, Zaa, Zab, false_implies, Zac, Zad, Zae, Zaf, Zag, Zah, Zai, Zaj, Zak, Zal, Zam, Zan, Zao, Zap, Zaq, Zar, Zas, Zat, Zau, Zav, Zaw, Zax, Zay, Zaz, Za0, Za1, Za2, Za3, Za4, Za5, Za6, Za7, Za8, Za9, Zba, Zbb, Zbc, Zbd, Zbe, Zbf, Zbg, Zbh, Zbi, Zbj, Zbk, Zbl, Zbm, Zbn, Zbo, Zbp, Zbq, Zbr, Zbs, Zbt, Zbu, Zbv, Zbw, Zbx, Zby, Zbz, Zb0, Zb1, Zb2, decide_true, decide_false, Zb3, Zb4, Zb5, Zb6, Zb7, Zb8, Zb9, Zca, Zcb, Zcc, Zcd, beq_self_eq_true, cond_true, cond_false, if_false, if_true, reduceIte, reduceCtorEq, not_true_eq_false, not_false_eq_true, true_and, and_true, forall_const, false_and, and_false, implies_true, Zce, Zcf, Zcg, Zch, Zci]; try trivial)) (by (simp only [HLe_nil, HLe_cons]; try (simp (disch := omega) only [↓ZD, ZU, ne_eq, Zaa, Zab, false_implies, Zac, Zad, Zae, Zaf, Zag, Zah, Zai, Zaj, Zak, Zal, Zam, Zan, Zao, Zap, Zaq, Zar, Zas, Zat, Zau, Zav, Zaw, Zax, Zay, Zaz, Za0, Za1, Za2, Za3, Za4, Za5, Za6, Za7, Za8, Za9, Zba, Zbb, Zbc, Zbd, Zbe, Zbf, Zbg, Zbh, Zbi, Zbj, Zbk, Zbl, Zbm, Zbn, Zbo, Zbp, Zbq, Zbr, Zbs, Zbt, Zbu, Zbv, Zbw, Zbx, Zby, Zbz, Zb0, Zb1, Zb2, decide_true, decide_false, Zb3, Zb4, Zb5, Zb6, Zb7, Zb8, Zb9, Zca, Zcb, Zcc, Zcd, beq_self_eq_true, cond_true, cond_false, if_false, if_true, reduceIte, reduceCtorEq, not_true_eq_false, not_false_eq_true, true_and, and_true, forall_const, false_and, and_false, implies_true, Zce, Zcf, Zcg, Zch, Zci]))) ?_
  rintro n ⟨h1, hi, ha⟩
  by_cases hlt : n < s.length
  · have hd : decide ((n : Int) < (s.length : Int)) = true := by simp; omega
    obtain ⟨c, r, hcr⟩ : ∃ c r, s.drop n = c :: r := by
      rw [List.drop_eq_getElem_cons hlt]; exact ⟨_, _, rfl⟩
    have hc : s.getD n 0 = c := by rw [show s.getD n 0 = (s.drop n).getD 0 0 from drop_getD (j := 0), hcr]; rfl
    have hdr : s.drop (n + 1) = r := by rw [← List.drop_drop, hcr]; rfl
    have hlen : (s.drop n).length = s.length - n := List.length_drop
    rw [hcr] at ha hlen
    simp only [List.length_cons] at hlen
    rw [clo] at ha
    simp (disch := omega) only [hd, Int.toNat_natCast, hc, ↓ZD, ZU, ne_eq, Zaa, Zab, false_implies, Zac, Zad, Zae, Zaf, Zag, Zah, Zai, Zaj, Zak, Zal, Zam, Zan, Zao, Zap, Zaq, Zar, Zas, Zat, Zau, Zav, Zaw, Zax, Zay, Zaz, Za0, Za1, Za2, Za3, Za4, Za5, Za6, Za7, Za8, Za9, Zba, Zbb, Zbc, Zbd, Zbe, Zbf, Zbg, Zbh, Zbi, Zbj, Zbk, Zbl, Zbm, Zbn, Zbo, Zbp, Zbq, Zbr, Zbs, Zbt, Zbu, Zbv, Zbw, Zbx, Zby, Zbz, Zb0, Zb1, Zb2, decide_true, decide_false, Zb3, Zb4, Zb5, Zb6, Zb7, Zb8, Zb9, Zca, Zcb, Zcc, Zcd, beq_self_eq_true, cond_true, cond_false, if_false, if_true, reduceIte, reduceCtorEq, not_true_eq_false, not_false_eq_true, true_and, and_true, forall_const, false_and, and_false, implies_true, Zce, Zcf, Zcg, Zch, Zci]
    refine conj.of (by omega) ?_
    simp (disch := omega) only [hd, Int.toNat_natCast, hc, ↓ZD, ZU, ne_eq, Zaa, Zab, false_implies, Zac, Zad, Zae, Zaf, Zag, Zah, Zai, Zaj, Zak, Zal, Zam, Zan, Zao, Zap, Zaq, Zar, Zas, Zat, Zau, Zav, Zaw, Zax, Zay, Zaz, Za0, Za1, Za2, Za3, Za4, Za5, Za6, Za7, Za8, Za9, Zba, Zbb, Zbc, Zbd, Zbe, Zbf, Zbg, Zbh, Zbi, Zbj, Zbk, Zbl, Zbm, Zbn, Zbo, Zbp, Zbq, Zbr, Zbs, Zbt, Zbu, Zbv, Zbw, Zbx, Zby, Zbz, Zb0, Zb1, Zb2, decide_true, decide_false, Zb3, Zb4, Zb5, Zb6, Zb7, Zb8, Zb9, Zca, Zcb, Zcc, Zcd, beq_self_eq_true, cond_true, cond_false, if_false, if_true, reduceIte, reduceCtorEq, not_true_eq_false, not_false_eq_true, true_and, and_true, forall_const, false_and, and_false, implies_true, Zce, Zcf, Zcg, Zch, Zci]
    refine ⟨fun hb => ?_, fun hb => ?_⟩
    · have hcb : c = 92 := eqC hb
      subst hcb
      rw [if_neg (by decide), show ((92 : UInt8) == 92 && !false) = true from rfl] at ha
      refine invK.on (n + 2) (⟨by omega, by omega, by
        rw [ha, ← List.drop_drop (i := 1) (j := n + 1), hdr]
        cases r with
        | nil => rfl
        | cons d r => rw [clo_skip]; simp only [List.drop_succ_cons, List.drop_zero, Option.map_map]; congr 1; funext z; simp only [Function.comp]; omega⟩) (by omega) (by (simp only [Le_nil, Le_cons]; simp (disch := omega) only [↓ZD, ZU, ne_eq, Zaa, Zab, false_implies, Zac, Zad, Zae, Zaf, Zag, Zah, Zai, Zaj, Zak, Zal, Zam, Zan, Zao, Zap, Zaq, Zar, Zas, Zat, Zau, Zav, Zaw, Zax, Zay, Zaz, Za0, Za1, Za2, Za3, Za4, Za5, Za6, Za7, Za8, Za9, Zba, Zbb, Zbc, Zbd, Zbe, Zbf, Zbg, Zbh, Zbi, Zbj, Zbk, Zbl, Zbm, Zbn, Zbo, Zbp, Zbq, Zbr, Zbs, Zbt, Zbu, Zbv, Zbw, Zbx, Zby, Zbz, Zb0, Zb1, Zb2, decide_true, decide_false, Zb3, Zb4, Zb5, Zb6, Zb7, Zb8, Zb9, Zca, Zcb, Zcc, Zcd, beq_self_eq_true, cond_true, cond_false, if_false, if_true, reduceIte, reduceCtorEq, not_true_eq_false, not_false_eq_true, true_and, and_true, forall_const, false_and, and_false, implies_true, Zce, Zcf, Zcg, Zch, Zci]; try trivial)) (by (simp only [HLe_nil, HLe_cons]; try (simp (disch := omega) only [↓ZD, ZU, ne_eq, Zaa, Zab, false_implies, Zac, Zad, Zae, Zaf, Zag, Zah, Zai, Zaj, Zak, Zal, Zam, Zan, Zao, Zap, Zaq, Zar, Zas, Zat, Zau, Zav, Zaw, Zax, Zay, Zaz, Za0, Za1, Za2, Za3, Za4, Za5, Za6, Za7, Za8, Za9, Zba, Zbb, Zbc, Zbd, Zbe, Zbf, Zbg, Zbh, Zbi, Zbj, Zbk, Zbl, Zbm, Zbn, Zbo, Zbp, Zbq, Zbr, Zbs, Zbt, Zbu, Zbv, Zbw, Zbx, Zby, Zbz, Zb0, Zb1, Zb2, decide_true, decide_false, Zb3, Zb4, Zb5, Zb6, Zb7, Zb8, Zb9, Zca, Zcb, Zcc, Zcd, beq_self_eq_true, cond_true, cond_false, if_false, if_true, reduceIte, reduceCtorEq, not_true_eq_false, not_false_eq_true, true_and, and_true, forall_const, false_and, and_false, implies_true, Zce, Zcf, Zcg, Zch, Zci])))
    · refine ⟨fun hq => ?_, fun hq => ?_⟩
      · have hcb : c = 34 := eqC hq
        subst hcb
        rw [if_pos (by decide)] at ha
        have ha2 : clo false (s.drop 1) = some n := by rw [ha]; simp only [Option.map_some]; congr 1; omega
        have hq : qX s = match unquote (s.take (n + 1)) with | none => ([], 0) | some t => (t, n + 1) := by rw [qX, ha2]
        rw [hq]
        refine conj.of (by omega) ?_
        simp (disch := omega) only [Int.toNat_natCast, ↓ZD, ZU, ne_eq, Zaa, Zab, false_implies, Zac, Zad, Zae, Zaf, Zag, Zah, Zai, Zaj, Zak, Zal, Zam, Zan, Zao, Zap, Zaq, Zar, Zas, Zat, Zau, Zav, Zaw, Zax, Zay, Zaz, Za0, Za1, Za2, Za3, Za4, Za5, Za6, Za7, Za8, Za9, Zba, Zbb, Zbc, Zbd, Zbe, Zbf, Zbg, Zbh, Zbi, Zbj, Zbk, Zbl, Zbm, Zbn, Zbo, Zbp, Zbq, Zbr, Zbs, Zbt, Zbu, Zbv, Zbw, Zbx, Zby, Zbz, Zb0, Zb1, Zb2, decide_true, decide_false, Zb3, Zb4, Zb5, Zb6, Zb7, Zb8, Zb9, Zca, Zcb, Zcc, Zcd, beq_self_eq_true, cond_true, cond_false, if_false, if_true, reduceIte, reduceCtorEq, not_true_eq_false, not_false_eq_true, true_and, and_true, forall_const, false_and, and_false, implies_true, Zce, Zcf, Zcg, Zch, Zci]
        have hn1 : ((n : Int) + 1).toNat = n + 1 := by omega
        simp only [hn1]
        refine CallE.pure (unquote_pure F _ (by rw [List.length_take]; omega)) ?_
        cases hu : unquote (s.take (n + 1)) with
        | none =>
          unfold retU
          simp (disch := omega) only [↓ZD, ZU, ne_eq, Zaa, Zab, false_implies, Zac, Zad, Zae, Zaf, Zag, Zah, Zai, Zaj, Zak, Zal, Zam, Zan, Zao, Zap, Zaq, Zar, Zas, Zat, Zau, Zav, Zaw, Zax, Zay, Zaz, Za0, Za1, Za2, Za3, Za4, Za5, Za6, Za7, Za8, Za9, Zba, Zbb, Zbc, Zbd, Zbe, Zbf, Zbg, Zbh, Zbi, Zbj, Zbk, Zbl, Zbm, Zbn, Zbo, Zbp, Zbq, Zbr, Zbs, Zbt, Zbu, Zbv, Zbw, Zbx, Zby, Zbz, Zb0, Zb1, Zb2, decide_true, decide_false, Zb3, Zb4, Zb5, Zb6, Zb7, Zb8, Zb9, Zca, Zcb, Zcc, Zcd, beq_self_eq_true, cond_true, cond_false, if_false, if_true, reduceIte, reduceCtorEq, not_true_eq_false, not_false_eq_true, true_and, and_true, forall_const, false_and, and_false, implies_true, Zce, Zcf, Zcg, Zch, Zci]
          exact fun h => absurd h (by decide)
        | some t =>
          unfold retU
          simp (disch := omega) only [↓ZD, ZU, ne_eq, Zaa, Zab, false_implies, Zac, Zad, Zae, Zaf, Zag, Zah, Zai, Zaj, Zak, Zal, Zam, Zan, Zao, Zap, Zaq, Zar, Zas, Zat, Zau, Zav, Zaw, Zax, Zay, Zaz, Za0, Za1, Za2, Za3, Za4, Za5, Za6, Za7, Za8, Za9, Zba, Zbb, Zbc, Zbd, Zbe, Zbf, Zbg, Zbh, Zbi, Zbj, Zbk, Zbl, Zbm, Zbn, Zbo, Zbp, Zbq, Zbr, Zbs, Zbt, Zbu, Zbv, Zbw, Zbx, Zby, Zbz, Zb0, Zb1, Zb2, decide_true, decide_false, Zb3, Zb4, Zb5, Zb6, Zb7, Zb8, Zb9, Zca, Zcb, Zcc, Zcd, beq_self_eq_true, cond_true, cond_false, if_false, if_true, reduceIte, reduceCtorEq, not_true_eq_false, not_false_eq_true, true_and, and_true, forall_const, false_and, and_false, implies_true, Zce, Zcf, Zcg, Zch, Zci]
          rfl
      · have hne : ((c == 34) && !false) = false := by
          have : c ≠ 34 := neC hq
          simp [this]
        have hne2 : ((c == 92) && !false) = false := by
          have : c ≠ 92 := neC hb
          simp [this]
        rw [hne, hne2, if_neg (by simp)] at ha
        refine invK.on (n + 1) (⟨by omega, by omega, by rw [ha, hdr, Option.map_map]; congr 1; funext z; simp only [Function.comp]; omega⟩) (by omega) (by (simp only [Le_nil, Le_cons]; simp (disch := omega) only [↓ZD, ZU, ne_eq, Zaa, Zab, false_implies, Zac, Zad, Zae, Zaf, Zag, Zah, Zai, Zaj, Zak, Zal, Zam, Zan, Zao, Zap, Zaq, Zar, Zas, Zat, Zau, Zav, Zaw, Zax, Zay, Zaz, Za0, Za1, Za2, Za3, Za4, Za5, Za6, Za7, Za8, Za9, Zba, Zbb, Zbc, Zbd, Zbe, Zbf, Zbg, Zbh, Zbi, Zbj, Zbk, Zbl, Zbm, Zbn, Zbo, Zbp, Zbq, Zbr, Zbs, Zbt, Zbu, Zbv, Zbw, Zbx, Zby, Zbz, Zb0, Zb1, Zb2, decide_true, decide_false, Zb3, Zb4, Zb5, Zb6, Zb7, Zb8, Zb9, Zca, Zcb, Zcc, Zcd, beq_self_eq_true, cond_true, cond_false, if_false, if_true, reduceIte, reduceCtorEq, not_true_eq_false, not_false_eq_true, true_and, and_true, forall_const, false_and, and_false, implies_true, Zce, Zcf, Zcg, Zch, Zci]; try trivial)) (by (simp only [HLe_nil, HLe_cons]; try (simp (disch := omega) only [↓ZD, ZU, ne_eq, Zaa, Zab, false_implies, Zac, Zad, Zae, Zaf, Zag, Zah, Zai, Zaj, Zak, Zal, Zam, Zan, Zao, Zap, Zaq, Zar, Zas, Zat, Zau, Zav, Zaw, Zax, Zay, Zaz, Za0, Za1, Za2, Za3, Za4, Za5, Za6, Za7, Za8, Za9, Zba, Zbb, Zbc, Zbd, Zbe, Zbf, Zbg, Zbh, Zbi, Zbj, Zbk, Zbl, Zbm, Zbn, Zbo, Zbp, Zbq, Zbr, Zbs, Zbt, Zbu, Zbv, Zbw, Zbx, Zby, Zbz, Zb0, Zb1, Zb2, decide_true, decide_false, Zb3, Zb4, Zb5, Zb6, Zb7, Zb8, Zb9, Zca, Zcb, Zcc, Zcd, beq_self_eq_true, cond_true, cond_false, if_false, if_true, reduceIte, reduceCtorEq, not_true_eq_false, not_false_eq_true, true_and, and_true, forall_const, false_and, and_false, implies_true, Zce, Zcf, Zcg, Zch, Zci])))
  · have hd : decide ((n : Int) < (s.length : Int)) = false := by simp; omega
    rw [List.drop_eq_nil_of_le (by omega : s.length ≤ n)] at ha
    have : qX s = ([], 0) := by rw [qX, ha]; rfl
    rw [this]
    simp (disch := omega) only [hd, ↓ZD, ZU, ne_eq, Zaa, Zab, false_implies, Zac, Zad, Zae, Zaf, Zag, Zah, Zai, Zaj, Zak, Zal, Zam, Zan, Zao, Zap, Zaq, Zar, Zas, Zat, Zau, Zav, Zaw, Zax, Zay, Zaz, Za0, Za1, Za2, Za3, Za4, Za5, Za6, Za7, Za8, Za9, Zba, Zbb, Zbc, Zbd, Zbe, Zbf, Zbg, Zbh, Zbi, Zbj, Zbk, Zbl, Zbm, Zbn, Zbo, Zbp, Zbq, Zbr, Zbs, Zbt, Zbu, Zbv, Zbw, Zbx, Zby, Zbz, Zb0, Zb1, Zb2, decide_true, decide_false, Zb3, Zb4, Zb5, Zb6, Zb7, Zb8, Zb9, Zca, Zcb, Zcc, Zcd, beq_self_eq_true, cond_true, cond_false, if_false, if_true, reduceIte, reduceCtorEq, not_true_eq_false, not_false_eq_true, true_and, and_true, forall_const, false_and, and_false, implies_true, Zce, Zcf, Zcg, Zch, Zci]
end Go.Proofs.YtndnpmlhofijjaaDoor
