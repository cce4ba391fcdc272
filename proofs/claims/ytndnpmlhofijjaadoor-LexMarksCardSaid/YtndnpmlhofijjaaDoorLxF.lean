/- Layer 7: one word, of the reference. -/
import Derived.Test.YtndnpmlhofijjaaDoorLxE
namespace Go.Proofs.YtndnpmlhofijjaaDoor
open Go Go.Eng
open Int renaming reduceEq → Zaa, cast_ofNat_Int → Zac, reduceToNat → Zbu, toNat_zero → Zbv, toNat_one → Zbw, reduceLE → Zbx, reduceLT → Zby, reduceAdd → Zbz, reduceSub → Zb0, reduceNeg → Zb1, zero_add → Zb2, reducePow → Zcg, reduceNegSucc → Zci
open UInt8 renaming reduceOfNat → Zab
open List renaming toList_toArray → Zad, length_append → Zag, cons_append → Zav, nil_append → Zaw, length_cons → Zax, length_nil → Zay, drop_zero → Zaz, drop_succ_cons → Za0, take_succ_cons → Za1, take_zero → Za2, drop_nil → Za3, take_nil → Za4, append_nil → Za5, all_cons → Za6, all_nil → Za7, isEmpty_cons → Za8, size_toArray → Za9, getElem?_toArray → Zba, getElem?_cons_zero → Zbb, getElem?_cons_succ → Zbc, getD_cons_zero → Zbd, getD_cons_succ → Zbe, mapM_cons → Zbf, mapM_nil → Zbg
open Option renaming getD_some → Zae, getD_none → Zaf, map_some → Zar, map_none → Zas, bind_some → Zat, bind_none → Zau
open Nat renaming le_add_right → Zah, reduceAdd → Zbi, reduceMul → Zbj, reduceMod → Zbk, reduceDiv → Zbl, reduceEqDiff → Zbm, reduceBEq → Zbn, reduceLeDiff → Zbo, reduceSub → Zbp, zero_add → Zbq, add_zero → Zbr, le_refl → Zbs, zero_le → Zbt, reducePow → Zcf, reduceLT → Zch
open Go.Eng renaming subG → Zai, lit → Zaj, isPar → Zak, numb → Zal, Wf → Zam, resV → Zan, oneCell → Zao, isB → Zap, asB → Zaq
open Go.Value renaming cells → Zbh
open Bool renaming and_true → Zb3, true_and → Zb4, and_self → Zb5, not_true → Zb6, not_false → Zb7, and_false → Zb8, or_false → Zb9, or_true → Zca, true_or → Zcb, false_or → Zcc, false_and → Zcd, false_eq_true → Zce
set_option linter.unusedSimpArgs false
set_option linter.unusedVariables false
set_option maxRecDepth 20000

/-- The word at the beginning, and how many bytes it has; or the error. -/
def tok (s : List UInt8) : Except Int (Wd × Nat) :=
  if (oneX s).2.2 ≠ 0 then .error (oneX s).2.2 else if (oneX s).2.1 = 0 then .error 10 else .ok ((oneX s).1, (oneX s).2.1)
def roneV (a : Nat) (t : List UInt8) (x : Int) (d n : Nat) (e : Int) : Value := .tuple #[.agg #[.int .i64 a, .string (bs t), .int .i64 x, .int .i64 d], .int .i64 n, .int .i64 e]
def RoneP (F : Base) (s : List UInt8) (i : Nat) : Prop := ∃ (a : Nat) (t : List UInt8) (x : Int) (d n : Nat) (e : Int),
  PureV Tryd.prog F 15 #[.string (bs s), .int .i64 i] (roneV a t x d n e) ∧
  match tok (s.drop i) with
  | .error z => e = z ∧ z ≠ 0
  | .ok (w, m) => e = 0 ∧ n = i + m ∧ w = (a, t, x) ∧ d = i
theorem slice_eq {s : List UInt8} {i n : Nat} : (s.take (i + n)).drop i = (s.drop i).take n := by
  rw [List.drop_take, Nat.add_sub_cancel_left]
theorem nameX_take (s : List UInt8) : s.take (nameX s).length = nameX s := by
  cases s with
  | nil => rfl
  | cons c r =>
    rw [nameX]; split
    · rw [List.length_cons, List.take_succ_cons, takeWhile_pre]
    · rfl
theorem mX_take (c : UInt8) (r : List UInt8) : (c :: r).take (mX (c :: r)).length = mX (c :: r) := by
  rw [mX_cons]
  split
  · rw [List.length_take, List.take_eq_take_iff]; simp
  · split <;> rfl
theorem oneX_mark {s : List UInt8} (h1 : isL (s.getD 0 0) = false) (h2 : isD (s.getD 0 0) = false) (h3 : s.getD 0 0 ≠ 34) (h4 : s.getD 0 0 ≠ 63) :
    oneX s = if mX s = [] then ((0, [], 0), 0, 0) else ((5, mX s, 0), (mX s).length, 0) := by
  unfold oneX mX
  rw [if_neg (by rw [h1]; simp), if_neg (by rw [h2]; simp), if_neg h3, if_neg h4]
  split
  · rw [if_neg (by simp)]; rfl
  · rfl
theorem rone_pure' (F : Base) (s : List UInt8) (i : Nat) (h0 : i < s.length) (hs : s.length ≤ 1000000000) : RoneP F s i := by
  obtain ⟨c, r, hcr⟩ : ∃ c r, s.drop i = c :: r := by
    rw [List.drop_eq_getElem_cons h0]; exact ⟨_, _, rfl⟩
  have hc : s.getD i 0 = c := by rw [show s.getD i 0 = (s.drop i).getD 0 0 from drop_getD (j := 0), hcr]; rfl
  have hdr : s.drop (i + 1) = r := by rw [← List.drop_drop, hcr]; rfl
  have hlen : (s.drop i).length = s.length - i := List.length_drop
  have hld : ((s.drop i).take 1).length = 1 := by rw [List.length_take]; omega
  rw [hcr] at hlen hld
  simp only [List.length_cons] at hlen
  unfold RoneP tok
  rw [hcr]
  by_cases h1 : isL c = true
  · have hx : oneX (c :: r) = ((1, nameX (c :: r), 0), (nameX (c :: r)).length, 0) := by
      unfold oneX; rw [List.getD_cons_zero, if_pos h1]
    have hne : (nameX (c :: r)).length ≠ 0 := by rw [nameX, if_pos h1]; simp
    have hle := nameX_le (c :: r)
    simp only [List.length_cons] at hle
    rw [hx]
    refine ⟨1, nameX (c :: r), 0, i, i + (nameX (c :: r)).length, 0, ?_, ?_⟩
    · have hn := rname_at F s i (by omega) hs
      rw [hcr] at hn
      refine pureV_of_svc mixed Tryd.func15 low15 (Nat.le_of_ble_eq_true rfl) (fun w0 => ?_)
      simp (disch := omega) only [fu15, ↓ZD, ZU, ne_eq, Zaa, Zab, false_implies, Zac, Zad, Zae, Zaf, Zag, Zah, Zai, Zaj, Zak, Zal, Zam, Zan, Zao, Zap, Zaq, Zar, Zas, Zat, Zau, Zav, Zaw, Zax, Zay, Zaz, Za0, Za1, Za2, Za3, Za4, Za5, Za6, Za7, Za8, Za9, Zba, Zbb, Zbc, Zbd, Zbe, Zbf, Zbg, Zbh, Zbi, Zbj, Zbk, Zbl, Zbm, Zbn, Zbo, Zbp, Zbq, Zbr, Zbs, Zbt, Zbu, Zbv, Zbw, Zbx, Zby, Zbz, Zb0, Zb1, Zb2, decide_true, decide_false, Zb3, Zb4, Zb5, Zb6, Zb7, Zb8, Zb9, Zca, Zcb, Zcc, Zcd, beq_self_eq_true, cond_true, cond_false, if_false, if_true, reduceIte, reduceCtorEq, not_true_eq_false, not_false_eq_true, true_and, and_true, forall_const, false_and, and_false, implies_true, Zce, Zcf, Zcg, Zch, Zci]
      refine NewB.of fun b hb hF => ?_
      simp (disch := omega) only [hF, ↓ZD, ZU, ne_eq, Zaa, Zab, false_implies, Zac, Zad, Zae, Zaf, Zag, Zah, Zai, Zaj, Zak, Zal, Zam, Zan, Zao, Zap, Zaq, Zar, Zas, Zat, Zau, Zav, Zaw, Zax, Zay, Zaz, Za0, Za1, Za2, Za3, Za4, Za5, Za6, Za7, Za8, Za9, Zba, Zbb, Zbc, Zbd, Zbe, Zbf, Zbg, Zbh, Zbi, Zbj, Zbk, Zbl, Zbm, Zbn, Zbo, Zbp, Zbq, Zbr, Zbs, Zbt, Zbu, Zbv, Zbw, Zbx, Zby, Zbz, Zb0, Zb1, Zb2, decide_true, decide_false, Zb3, Zb4, Zb5, Zb6, Zb7, Zb8, Zb9, Zca, Zcb, Zcc, Zcd, beq_self_eq_true, cond_true, cond_false, if_false, if_true, reduceIte, reduceCtorEq, not_true_eq_false, not_false_eq_true, true_and, and_true, forall_const, false_and, and_false, implies_true, Zce, Zcf, Zcg, Zch, Zci]
      refine conj.of (by omega) ?_
      simp (disch := omega) only [hF, Int.toNat_natCast, hc, ↓ZD, ZU, ne_eq, Zaa, Zab, false_implies, Zac, Zad, Zae, Zaf, Zag, Zah, Zai, Zaj, Zak, Zal, Zam, Zan, Zao, Zap, Zaq, Zar, Zas, Zat, Zau, Zav, Zaw, Zax, Zay, Zaz, Za0, Za1, Za2, Za3, Za4, Za5, Za6, Za7, Za8, Za9, Zba, Zbb, Zbc, Zbd, Zbe, Zbf, Zbg, Zbh, Zbi, Zbj, Zbk, Zbl, Zbm, Zbn, Zbo, Zbp, Zbq, Zbr, Zbs, Zbt, Zbu, Zbv, Zbw, Zbx, Zby, Zbz, Zb0, Zb1, Zb2, decide_true, decide_false, Zb3, Zb4, Zb5, Zb6, Zb7, Zb8, Zb9, Zca, Zcb, Zcc, Zcd, beq_self_eq_true, cond_true, cond_false, if_false, if_true, reduceIte, reduceCtorEq, not_true_eq_false, not_false_eq_true, true_and, and_true, forall_const, false_and, and_false, implies_true, Zce, Zcf, Zcg, Zch, Zci]
      refine CallE.pure (rletter_pure F c) ?_
      simp (disch := omega) only [hF, ↓ZD, ZU, ne_eq, Zaa, Zab, false_implies, Zac, Zad, Zae, Zaf, Zag, Zah, Zai, Zaj, Zak, Zal, Zam, Zan, Zao, Zap, Zaq, Zar, Zas, Zat, Zau, Zav, Zaw, Zax, Zay, Zaz, Za0, Za1, Za2, Za3, Za4, Za5, Za6, Za7, Za8, Za9, Zba, Zbb, Zbc, Zbd, Zbe, Zbf, Zbg, Zbh, Zbi, Zbj, Zbk, Zbl, Zbm, Zbn, Zbo, Zbp, Zbq, Zbr, Zbs, Zbt, Zbu, Zbv, Zbw, Zbx, Zby, Zbz, Zb0, Zb1, Zb2, decide_true, decide_false, Zb3, Zb4, Zb5, Zb6, Zb7, Zb8, Zb9, Zca, Zcb, Zcc, Zcd, beq_self_eq_true, cond_true, cond_false, if_false, if_true, reduceIte, reduceCtorEq, not_true_eq_false, not_false_eq_true, true_and, and_true, forall_const, false_and, and_false, implies_true, Zce, Zcf, Zcg, Zch, Zci]
      refine ⟨fun h1 => ?_, fun h => by rw [h1] at h; cases h⟩
      refine CallE.pure hn ?_
      simp (disch := omega) only [hF, ↓ZD, ZU, ne_eq, Zaa, Zab, false_implies, Zac, Zad, Zae, Zaf, Zag, Zah, Zai, Zaj, Zak, Zal, Zam, Zan, Zao, Zap, Zaq, Zar, Zas, Zat, Zau, Zav, Zaw, Zax, Zay, Zaz, Za0, Za1, Za2, Za3, Za4, Za5, Za6, Za7, Za8, Za9, Zba, Zbb, Zbc, Zbd, Zbe, Zbf, Zbg, Zbh, Zbi, Zbj, Zbk, Zbl, Zbm, Zbn, Zbo, Zbp, Zbq, Zbr, Zbs, Zbt, Zbu, Zbv, Zbw, Zbx, Zby, Zbz, Zb0, Zb1, Zb2, decide_true, decide_false, Zb3, Zb4, Zb5, Zb6, Zb7, Zb8, Zb9, Zca, Zcb, Zcc, Zcd, beq_self_eq_true, cond_true, cond_false, if_false, if_true, reduceIte, reduceCtorEq, not_true_eq_false, not_false_eq_true, true_and, and_true, forall_const, false_and, and_false, implies_true, Zce, Zcf, Zcg, Zch, Zci]
      refine conj.of (by omega) ?_
      simp (disch := omega) only [hF, Int.toNat_natCast, slice_eq, hcr, nameX_take, ↓ZD, ZU, ne_eq, Zaa, Zab, false_implies, Zac, Zad, Zae, Zaf, Zag, Zah, Zai, Zaj, Zak, Zal, Zam, Zan, Zao, Zap, Zaq, Zar, Zas, Zat, Zau, Zav, Zaw, Zax, Zay, Zaz, Za0, Za1, Za2, Za3, Za4, Za5, Za6, Za7, Za8, Za9, Zba, Zbb, Zbc, Zbd, Zbe, Zbf, Zbg, Zbh, Zbi, Zbj, Zbk, Zbl, Zbm, Zbn, Zbo, Zbp, Zbq, Zbr, Zbs, Zbt, Zbu, Zbv, Zbw, Zbx, Zby, Zbz, Zb0, Zb1, Zb2, decide_true, decide_false, Zb3, Zb4, Zb5, Zb6, Zb7, Zb8, Zb9, Zca, Zcb, Zcc, Zcd, beq_self_eq_true, cond_true, cond_false, if_false, if_true, reduceIte, reduceCtorEq, not_true_eq_false, not_false_eq_true, true_and, and_true, forall_const, false_and, and_false, implies_true, Zce, Zcf, Zcg, Zch, Zci]
      rfl
    · rw [if_neg (by simp), if_neg hne]
      exact ⟨rfl, rfl, rfl, rfl⟩
  have h1 : isL c = false := by simpa using h1
  by_cases h2 : isD c = true
  · have hx : oneX (c :: r) = ((2, (c :: r).takeWhile isD, (readD false ((c :: r).takeWhile isD)).1), ((c :: r).takeWhile isD).length, (readD false ((c :: r).takeWhile isD)).2) := by
      unfold oneX; rw [List.getD_cons_zero, if_neg (by rw [h1]; simp), if_pos h2]
    have hle := takeWhile_le isD (c :: r)
    simp only [List.length_cons] at hle
    have hne : ((c :: r).takeWhile isD).length ≠ 0 := by rw [List.takeWhile_cons, if_pos h2]; simp
    have hrd := rread_pure F false ((c :: r).takeWhile isD) (fun _ => digits_pre) (by omega)
    unfold pr at hrd
    have htk := takeWhile_pre isD (c :: r)
    rw [hx]
    refine ⟨2, (c :: r).takeWhile isD, (readD false ((c :: r).takeWhile isD)).1, i, i + ((c :: r).takeWhile isD).length, (readD false ((c :: r).takeWhile isD)).2, ?_, ?_⟩
    · refine pureV_of_svc mixed Tryd.func15 low15 (Nat.le_of_ble_eq_true rfl) (fun w0 => ?_)
      simp (disch := omega) only [fu15, ↓ZD, ZU, ne_eq, Zaa, Zab, false_implies, Zac, Zad, Zae, Zaf, Zag, Zah, Zai, Zaj, Zak, Zal, Zam, Zan, Zao, Zap, Zaq, Zar, Zas, Zat, Zau, Zav, Zaw, Zax, Zay, Zaz, Za0, Za1, Za2, Za3, Za4, Za5, Za6, Za7, Za8, Za9, Zba, Zbb, Zbc, Zbd, Zbe, Zbf, Zbg, Zbh, Zbi, Zbj, Zbk, Zbl, Zbm, Zbn, Zbo, Zbp, Zbq, Zbr, Zbs, Zbt, Zbu, Zbv, Zbw, Zbx, Zby, Zbz, Zb0, Zb1, Zb2, decide_true, decide_false, Zb3, Zb4, Zb5, Zb6, Zb7, Zb8, Zb9, Zca, Zcb, Zcc, Zcd, beq_self_eq_true, cond_true, cond_false, if_false, if_true, reduceIte, reduceCtorEq, not_true_eq_false, not_false_eq_true, true_and, and_true, forall_const, false_and, and_false, implies_true, Zce, Zcf, Zcg, Zch, Zci]
      refine NewB.of fun b hb hF => ?_
      simp (disch := omega) only [hF, ↓ZD, ZU, ne_eq, Zaa, Zab, false_implies, Zac, Zad, Zae, Zaf, Zag, Zah, Zai, Zaj, Zak, Zal, Zam, Zan, Zao, Zap, Zaq, Zar, Zas, Zat, Zau, Zav, Zaw, Zax, Zay, Zaz, Za0, Za1, Za2, Za3, Za4, Za5, Za6, Za7, Za8, Za9, Zba, Zbb, Zbc, Zbd, Zbe, Zbf, Zbg, Zbh, Zbi, Zbj, Zbk, Zbl, Zbm, Zbn, Zbo, Zbp, Zbq, Zbr, Zbs, Zbt, Zbu, Zbv, Zbw, Zbx, Zby, Zbz, Zb0, Zb1, Zb2, decide_true, decide_false, Zb3, Zb4, Zb5, Zb6, Zb7, Zb8, Zb9, Zca, Zcb, Zcc, Zcd, beq_self_eq_true, cond_true, cond_false, if_false, if_true, reduceIte, reduceCtorEq, not_true_eq_false, not_false_eq_true, true_and, and_true, forall_const, false_and, and_false, implies_true, Zce, Zcf, Zcg, Zch, Zci]
      refine conj.of (by omega) ?_
      simp (disch := omega) only [hF, Int.toNat_natCast, hc, ↓ZD, ZU, ne_eq, Zaa, Zab, false_implies, Zac, Zad, Zae, Zaf, Zag, Zah, Zai, Zaj, Zak, Zal, Zam, Zan, Zao, Zap, Zaq, Zar, Zas, Zat, Zau, Zav, Zaw, Zax, Zay, Zaz, Za0, Za1, Za2, Za3, Za4, Za5, Za6, Za7, Za8, Za9, Zba, Zbb, Zbc, Zbd, Zbe, Zbf, Zbg, Zbh, Zbi, Zbj, Zbk, Zbl, Zbm, Zbn, Zbo, Zbp, Zbq, Zbr, Zbs, Zbt, Zbu, Zbv, Zbw, Zbx, Zby, Zbz, Zb0, Zb1, Zb2, decide_true, decide_false, Zb3, Zb4, Zb5, Zb6, Zb7, Zb8, Zb9, Zca, Zcb, Zcc, Zcd, beq_self_eq_true, cond_true, cond_false, if_false, if_true, reduceIte, reduceCtorEq, not_true_eq_false, not_false_eq_true, true_and, and_true, forall_const, false_and, and_false, implies_true, Zce, Zcf, Zcg, Zch, Zci]
      refine CallE.pure (rletter_pure F c) ?_
      simp (disch := omega) only [hF, ↓ZD, ZU, ne_eq, Zaa, Zab, false_implies, Zac, Zad, Zae, Zaf, Zag, Zah, Zai, Zaj, Zak, Zal, Zam, Zan, Zao, Zap, Zaq, Zar, Zas, Zat, Zau, Zav, Zaw, Zax, Zay, Zaz, Za0, Za1, Za2, Za3, Za4, Za5, Za6, Za7, Za8, Za9, Zba, Zbb, Zbc, Zbd, Zbe, Zbf, Zbg, Zbh, Zbi, Zbj, Zbk, Zbl, Zbm, Zbn, Zbo, Zbp, Zbq, Zbr, Zbs, Zbt, Zbu, Zbv, Zbw, Zbx, Zby, Zbz, Zb0, Zb1, Zb2, decide_true, decide_false, Zb3, Zb4, Zb5, Zb6, Zb7, Zb8, Zb9, Zca, Zcb, Zcc, Zcd, beq_self_eq_true, cond_true, cond_false, if_false, if_true, reduceIte, reduceCtorEq, not_true_eq_false, not_false_eq_true, true_and, and_true, forall_const, false_and, and_false, implies_true, Zce, Zcf, Zcg, Zch, Zci]
      refine ⟨fun h => (by rw [h1] at h; cases h), fun _ => ?_⟩
      refine CallE.pure (rdigit_pure F c) ?_
      simp (disch := omega) only [hF, ↓ZD, ZU, ne_eq, Zaa, Zab, false_implies, Zac, Zad, Zae, Zaf, Zag, Zah, Zai, Zaj, Zak, Zal, Zam, Zan, Zao, Zap, Zaq, Zar, Zas, Zat, Zau, Zav, Zaw, Zax, Zay, Zaz, Za0, Za1, Za2, Za3, Za4, Za5, Za6, Za7, Za8, Za9, Zba, Zbb, Zbc, Zbd, Zbe, Zbf, Zbg, Zbh, Zbi, Zbj, Zbk, Zbl, Zbm, Zbn, Zbo, Zbp, Zbq, Zbr, Zbs, Zbt, Zbu, Zbv, Zbw, Zbx, Zby, Zbz, Zb0, Zb1, Zb2, decide_true, decide_false, Zb3, Zb4, Zb5, Zb6, Zb7, Zb8, Zb9, Zca, Zcb, Zcc, Zcd, beq_self_eq_true, cond_true, cond_false, if_false, if_true, reduceIte, reduceCtorEq, not_true_eq_false, not_false_eq_true, true_and, and_true, forall_const, false_and, and_false, implies_true, Zce, Zcf, Zcg, Zch, Zci]
      refine ⟨fun _ => ?_, fun h => by rw [h2] at h; cases h⟩
      refine LoopL.inv (fun (j : Nat) => i ≤ j ∧ j ≤ s.length ∧ ((c :: r).take (j - i)).all isD = true) (fun j => [(0, some (.string (bs s))), (1, some (.int .i64 i)), (4, some (.pointer (some ⟨b, 0, none⟩))), (9, some (.int .i64 j))]) (fun j => [(b, .cells #[.int .i64 0, .string (bs []), .int .i64 0, .int .i64 0] 42 (0, 0))]) (fun j => s.length - j) (i) (⟨Nat.le_refl _, by omega, by simp⟩) (by (simp only [Le_nil, Le_cons]; simp (disch := omega) only [↓ZD, ZU, ne_eq, Zaa, Zab, false_implies, Zac, Zad, Zae, Zaf, Zag, Zah, Zai, Zaj, Zak, Zal, Zam, Zan, Zao, Zap, Zaq, Zar, Zas, Zat, Zau, Zav, Zaw, Zax, Zay, Zaz, Za0, Za1, Za2, Za3, Za4, Za5, Za6, Za7, Za8, Za9, Zba, Zbb, Zbc, Zbd, Zbe, Zbf, Zbg, Zbh, Zbi, Zbj, Zbk, Zbl, Zbm, Zbn, Zbo, Zbp, Zbq, Zbr, Zbs, Zbt, Zbu, Zbv, Zbw, Zbx, Zby, Zbz, Zb0, Zb1, Zb2, decide_true, decide_false, Zb3, Zb4, Zb5, Zb6, Zb7, Zb8, Zb9, Zca, Zcb, Zcc, Zcd, beq_self_eq_true, cond_true, cond_false, if_false, if_true, reduceIte, reduceCtorEq, not_true_eq_false, not_false_eq_true, true_and, and_true, forall_const, false_and, and_false, implies_true, Zce, Zcf, Zcg, Zch, Zci]; try trivial)) (by (simp only [HLe_nil, HLe_cons]; try (simp (disch := omega) only [↓ZD, ZU, ne_eq, Zaa, Zab, false_implies, Zac, Zad, Zae, Zaf, Zag, Zah, Zai, Zaj, Zak, Zal, Zam, Zan, Zao, Zap, Zaq, Zar, Zas, Zat, Zau, Zav, Zaw, Zax, Zay, Zaz, Za0, Za1, Za2, Za3, Za4, Za5, Za6, Za7, Za8, Za9, Zba, Zbb, Zbc, Zbd, Zbe, Zbf, Zbg, Zbh, Zbi, Zbj, Zbk, Zbl, Zbm, Zbn, Zbo, Zbp, Zbq, Zbr, Zbs, Zbt, Zbu, Zbv, Zbw, Zbx, Zby, Zbz, Zb0, Zb1, Zb2, decide_true, decide_false, Zb3, Zb4, Zb5, Zb6, Zb7, Zb8, Zb9, Zca, Zcb, Zcc, Zcd, beq_self_eq_true, cond_true, cond_false, if_false, if_true, reduceIte, reduceCtorEq, not_true_eq_false, not_false_eq_true, true_and, and_true, forall_const, false_and, and_false, implies_true, Zce, Zcf, Zcg, Zch, Zci]))) ?_
      rintro j ⟨h3, h4, h5⟩
      by_cases hjt : j < s.length
      · have hdj : decide ((j : Int) < (s.length : Int)) = true := by simp; omega
        have hgj : s.getD j 0 = (c :: r).getD (j - i) 0 := by rw [← hcr, ← drop_getD]; congr 1; omega
        have hjl : j - i < (c :: r).length := by simp only [List.length_cons]; omega
        simp (disch := omega) only [hF, hdj, Int.toNat_natCast, ↓ZD, ZU, ne_eq, Zaa, Zab, false_implies, Zac, Zad, Zae, Zaf, Zag, Zah, Zai, Zaj, Zak, Zal, Zam, Zan, Zao, Zap, Zaq, Zar, Zas, Zat, Zau, Zav, Zaw, Zax, Zay, Zaz, Za0, Za1, Za2, Za3, Za4, Za5, Za6, Za7, Za8, Za9, Zba, Zbb, Zbc, Zbd, Zbe, Zbf, Zbg, Zbh, Zbi, Zbj, Zbk, Zbl, Zbm, Zbn, Zbo, Zbp, Zbq, Zbr, Zbs, Zbt, Zbu, Zbv, Zbw, Zbx, Zby, Zbz, Zb0, Zb1, Zb2, decide_true, decide_false, Zb3, Zb4, Zb5, Zb6, Zb7, Zb8, Zb9, Zca, Zcb, Zcc, Zcd, beq_self_eq_true, cond_true, cond_false, if_false, if_true, reduceIte, reduceCtorEq, not_true_eq_false, not_false_eq_true, true_and, and_true, forall_const, false_and, and_false, implies_true, Zce, Zcf, Zcg, Zch, Zci]
        refine conj.of (by omega) ?_
        simp (disch := omega) only [hF, hdj, Int.toNat_natCast, ↓ZD, ZU, ne_eq, Zaa, Zab, false_implies, Zac, Zad, Zae, Zaf, Zag, Zah, Zai, Zaj, Zak, Zal, Zam, Zan, Zao, Zap, Zaq, Zar, Zas, Zat, Zau, Zav, Zaw, Zax, Zay, Zaz, Za0, Za1, Za2, Za3, Za4, Za5, Za6, Za7, Za8, Za9, Zba, Zbb, Zbc, Zbd, Zbe, Zbf, Zbg, Zbh, Zbi, Zbj, Zbk, Zbl, Zbm, Zbn, Zbo, Zbp, Zbq, Zbr, Zbs, Zbt, Zbu, Zbv, Zbw, Zbx, Zby, Zbz, Zb0, Zb1, Zb2, decide_true, decide_false, Zb3, Zb4, Zb5, Zb6, Zb7, Zb8, Zb9, Zca, Zcb, Zcc, Zcd, beq_self_eq_true, cond_true, cond_false, if_false, if_true, reduceIte, reduceCtorEq, not_true_eq_false, not_false_eq_true, true_and, and_true, forall_const, false_and, and_false, implies_true, Zce, Zcf, Zcg, Zch, Zci]
        refine CallQ.of _ (rdigit_pure F _).up ?_
        simp (disch := omega) only [hF, ↓ZD, ZU, ne_eq, Zaa, Zab, false_implies, Zac, Zad, Zae, Zaf, Zag, Zah, Zai, Zaj, Zak, Zal, Zam, Zan, Zao, Zap, Zaq, Zar, Zas, Zat, Zau, Zav, Zaw, Zax, Zay, Zaz, Za0, Za1, Za2, Za3, Za4, Za5, Za6, Za7, Za8, Za9, Zba, Zbb, Zbc, Zbd, Zbe, Zbf, Zbg, Zbh, Zbi, Zbj, Zbk, Zbl, Zbm, Zbn, Zbo, Zbp, Zbq, Zbr, Zbs, Zbt, Zbu, Zbv, Zbw, Zbx, Zby, Zbz, Zb0, Zb1, Zb2, decide_true, decide_false, Zb3, Zb4, Zb5, Zb6, Zb7, Zb8, Zb9, Zca, Zcb, Zcc, Zcd, beq_self_eq_true, cond_true, cond_false, if_false, if_true, reduceIte, reduceCtorEq, not_true_eq_false, not_false_eq_true, true_and, and_true, forall_const, false_and, and_false, implies_true, Zce, Zcf, Zcg, Zch, Zci]
        refine ⟨fun hc => ?_, fun hc => ?_⟩
        · refine invK.on (j + 1) (⟨by omega, by omega, by rw [show j + 1 - i = (j - i) + 1 by omega, all_snoc hjl, h5, ← hgj]; exact hc⟩) (by omega) (by (simp only [Le_nil, Le_cons]; simp (disch := omega) only [hF, ↓ZD, ZU, ne_eq, Zaa, Zab, false_implies, Zac, Zad, Zae, Zaf, Zag, Zah, Zai, Zaj, Zak, Zal, Zam, Zan, Zao, Zap, Zaq, Zar, Zas, Zat, Zau, Zav, Zaw, Zax, Zay, Zaz, Za0, Za1, Za2, Za3, Za4, Za5, Za6, Za7, Za8, Za9, Zba, Zbb, Zbc, Zbd, Zbe, Zbf, Zbg, Zbh, Zbi, Zbj, Zbk, Zbl, Zbm, Zbn, Zbo, Zbp, Zbq, Zbr, Zbs, Zbt, Zbu, Zbv, Zbw, Zbx, Zby, Zbz, Zb0, Zb1, Zb2, decide_true, decide_false, Zb3, Zb4, Zb5, Zb6, Zb7, Zb8, Zb9, Zca, Zcb, Zcc, Zcd, beq_self_eq_true, cond_true, cond_false, if_false, if_true, reduceIte, reduceCtorEq, not_true_eq_false, not_false_eq_true, true_and, and_true, forall_const, false_and, and_false, implies_true, Zce, Zcf, Zcg, Zch, Zci]; try trivial)) (by (simp only [HLe_nil, HLe_cons]; try (simp (disch := omega) only [hF, ↓ZD, ZU, ne_eq, Zaa, Zab, false_implies, Zac, Zad, Zae, Zaf, Zag, Zah, Zai, Zaj, Zak, Zal, Zam, Zan, Zao, Zap, Zaq, Zar, Zas, Zat, Zau, Zav, Zaw, Zax, Zay, Zaz, Za0, Za1, Za2, Za3, Za4, Za5, Za6, Za7, Za8, Za9, Zba, Zbb, Zbc, Zbd, Zbe, Zbf, Zbg, Zbh, Zbi, Zbj, Zbk, Zbl, Zbm, Zbn, Zbo, Zbp, Zbq, Zbr, Zbs, Zbt, Zbu, Zbv, Zbw, Zbx, Zby, Zbz, Zb0, Zb1, Zb2, decide_true, decide_false, Zb3, Zb4, Zb5, Zb6, Zb7, Zb8, Zb9, Zca, Zcb, Zcc, Zcd, beq_self_eq_true, cond_true, cond_false, if_false, if_true, reduceIte, reduceCtorEq, not_true_eq_false, not_false_eq_true, true_and, and_true, forall_const, false_and, and_false, implies_true, Zce, Zcf, Zcg, Zch, Zci])))
        · have h6 := takeWhile_at (p := isD) hjl h5 (by rw [← hgj]; exact hc)
          have hj : j = i + ((c :: r).takeWhile isD).length := by omega
          have hsl : (s.take j).drop i = (c :: r).takeWhile isD := by rw [hj, slice_eq, hcr, htk]
          rw [← hj]
          refine conj.of (by omega) ?_
          simp (disch := omega) only [hF, Int.toNat_natCast, hsl, ↓ZD, ZU, ne_eq, Zaa, Zab, false_implies, Zac, Zad, Zae, Zaf, Zag, Zah, Zai, Zaj, Zak, Zal, Zam, Zan, Zao, Zap, Zaq, Zar, Zas, Zat, Zau, Zav, Zaw, Zax, Zay, Zaz, Za0, Za1, Za2, Za3, Za4, Za5, Za6, Za7, Za8, Za9, Zba, Zbb, Zbc, Zbd, Zbe, Zbf, Zbg, Zbh, Zbi, Zbj, Zbk, Zbl, Zbm, Zbn, Zbo, Zbp, Zbq, Zbr, Zbs, Zbt, Zbu, Zbv, Zbw, Zbx, Zby, Zbz, Zb0, Zb1, Zb2, decide_true, decide_false, Zb3, Zb4, Zb5, Zb6, Zb7, Zb8, Zb9, Zca, Zcb, Zcc, Zcd, beq_self_eq_true, cond_true, cond_false, if_false, if_true, reduceIte, reduceCtorEq, not_true_eq_false, not_false_eq_true, true_and, and_true, forall_const, false_and, and_false, implies_true, Zce, Zcf, Zcg, Zch, Zci]
          refine CallE.pure hrd ?_
          simp (disch := omega) only [hF, ↓ZD, ZU, ne_eq, Zaa, Zab, false_implies, Zac, Zad, Zae, Zaf, Zag, Zah, Zai, Zaj, Zak, Zal, Zam, Zan, Zao, Zap, Zaq, Zar, Zas, Zat, Zau, Zav, Zaw, Zax, Zay, Zaz, Za0, Za1, Za2, Za3, Za4, Za5, Za6, Za7, Za8, Za9, Zba, Zbb, Zbc, Zbd, Zbe, Zbf, Zbg, Zbh, Zbi, Zbj, Zbk, Zbl, Zbm, Zbn, Zbo, Zbp, Zbq, Zbr, Zbs, Zbt, Zbu, Zbv, Zbw, Zbx, Zby, Zbz, Zb0, Zb1, Zb2, decide_true, decide_false, Zb3, Zb4, Zb5, Zb6, Zb7, Zb8, Zb9, Zca, Zcb, Zcc, Zcd, beq_self_eq_true, cond_true, cond_false, if_false, if_true, reduceIte, reduceCtorEq, not_true_eq_false, not_false_eq_true, true_and, and_true, forall_const, false_and, and_false, implies_true, Zce, Zcf, Zcg, Zch, Zci]
          refine conj.of (by omega) ?_
          simp (disch := omega) only [hF, Int.toNat_natCast, hsl, ↓ZD, ZU, ne_eq, Zaa, Zab, false_implies, Zac, Zad, Zae, Zaf, Zag, Zah, Zai, Zaj, Zak, Zal, Zam, Zan, Zao, Zap, Zaq, Zar, Zas, Zat, Zau, Zav, Zaw, Zax, Zay, Zaz, Za0, Za1, Za2, Za3, Za4, Za5, Za6, Za7, Za8, Za9, Zba, Zbb, Zbc, Zbd, Zbe, Zbf, Zbg, Zbh, Zbi, Zbj, Zbk, Zbl, Zbm, Zbn, Zbo, Zbp, Zbq, Zbr, Zbs, Zbt, Zbu, Zbv, Zbw, Zbx, Zby, Zbz, Zb0, Zb1, Zb2, decide_true, decide_false, Zb3, Zb4, Zb5, Zb6, Zb7, Zb8, Zb9, Zca, Zcb, Zcc, Zcd, beq_self_eq_true, cond_true, cond_false, if_false, if_true, reduceIte, reduceCtorEq, not_true_eq_false, not_false_eq_true, true_and, and_true, forall_const, false_and, and_false, implies_true, Zce, Zcf, Zcg, Zch, Zci]
          rfl
      · have hdj : decide ((j : Int) < (s.length : Int)) = false := by simp; omega
        obtain rfl : j = s.length := by omega
        rw [List.take_of_length_le (by simp only [List.length_cons]; omega)] at h5
        have h6 := takeWhile_all h5
        have hj : s.length = i + ((c :: r).takeWhile isD).length := by rw [h6]; simp only [List.length_cons]; omega
        have hsl : (s.take s.length).drop i = (c :: r).takeWhile isD := by rw [List.take_length, hcr, h6]
        rw [← hj]
        simp (disch := omega) only [hF, hdj, ↓ZD, ZU, ne_eq, Zaa, Zab, false_implies, Zac, Zad, Zae, Zaf, Zag, Zah, Zai, Zaj, Zak, Zal, Zam, Zan, Zao, Zap, Zaq, Zar, Zas, Zat, Zau, Zav, Zaw, Zax, Zay, Zaz, Za0, Za1, Za2, Za3, Za4, Za5, Za6, Za7, Za8, Za9, Zba, Zbb, Zbc, Zbd, Zbe, Zbf, Zbg, Zbh, Zbi, Zbj, Zbk, Zbl, Zbm, Zbn, Zbo, Zbp, Zbq, Zbr, Zbs, Zbt, Zbu, Zbv, Zbw, Zbx, Zby, Zbz, Zb0, Zb1, Zb2, decide_true, decide_false, Zb3, Zb4, Zb5, Zb6, Zb7, Zb8, Zb9, Zca, Zcb, Zcc, Zcd, beq_self_eq_true, cond_true, cond_false, if_false, if_true, reduceIte, reduceCtorEq, not_true_eq_false, not_false_eq_true, true_and, and_true, forall_const, false_and, and_false, implies_true, Zce, Zcf, Zcg, Zch, Zci]
        refine CallQ.of (.bool false) trivial ?_
        simp (disch := omega) only [hF, ↓ZD, ZU, ne_eq, Zaa, Zab, false_implies, Zac, Zad, Zae, Zaf, Zag, Zah, Zai, Zaj, Zak, Zal, Zam, Zan, Zao, Zap, Zaq, Zar, Zas, Zat, Zau, Zav, Zaw, Zax, Zay, Zaz, Za0, Za1, Za2, Za3, Za4, Za5, Za6, Za7, Za8, Za9, Zba, Zbb, Zbc, Zbd, Zbe, Zbf, Zbg, Zbh, Zbi, Zbj, Zbk, Zbl, Zbm, Zbn, Zbo, Zbp, Zbq, Zbr, Zbs, Zbt, Zbu, Zbv, Zbw, Zbx, Zby, Zbz, Zb0, Zb1, Zb2, decide_true, decide_false, Zb3, Zb4, Zb5, Zb6, Zb7, Zb8, Zb9, Zca, Zcb, Zcc, Zcd, beq_self_eq_true, cond_true, cond_false, if_false, if_true, reduceIte, reduceCtorEq, not_true_eq_false, not_false_eq_true, true_and, and_true, forall_const, false_and, and_false, implies_true, Zce, Zcf, Zcg, Zch, Zci]
        refine conj.of (by omega) ?_
        simp (disch := omega) only [hF, Int.toNat_natCast, hsl, ↓ZD, ZU, ne_eq, Zaa, Zab, false_implies, Zac, Zad, Zae, Zaf, Zag, Zah, Zai, Zaj, Zak, Zal, Zam, Zan, Zao, Zap, Zaq, Zar, Zas, Zat, Zau, Zav, Zaw, Zax, Zay, Zaz, Za0, Za1, Za2, Za3, Za4, Za5, Za6, Za7, Za8, Za9, Zba, Zbb, Zbc, Zbd, Zbe, Zbf, Zbg, Zbh, Zbi, Zbj, Zbk, Zbl, Zbm, Zbn, Zbo, Zbp, Zbq, Zbr, Zbs, Zbt, Zbu, Zbv, Zbw, Zbx, Zby, Zbz, Zb0, Zb1, Zb2, decide_true, decide_false, Zb3, Zb4, Zb5, Zb6, Zb7, Zb8, Zb9, Zca, Zcb, Zcc, Zcd, beq_self_eq_true, cond_true, cond_false, if_false, if_true, reduceIte, reduceCtorEq, not_true_eq_false, not_false_eq_true, true_and, and_true, forall_const, false_and, and_false, implies_true, Zce, Zcf, Zcg, Zch, Zci]
        refine CallE.pure hrd ?_
        simp (disch := omega) only [hF, ↓ZD, ZU, ne_eq, Zaa, Zab, false_implies, Zac, Zad, Zae, Zaf, Zag, Zah, Zai, Zaj, Zak, Zal, Zam, Zan, Zao, Zap, Zaq, Zar, Zas, Zat, Zau, Zav, Zaw, Zax, Zay, Zaz, Za0, Za1, Za2, Za3, Za4, Za5, Za6, Za7, Za8, Za9, Zba, Zbb, Zbc, Zbd, Zbe, Zbf, Zbg, Zbh, Zbi, Zbj, Zbk, Zbl, Zbm, Zbn, Zbo, Zbp, Zbq, Zbr, Zbs, Zbt, Zbu, Zbv, Zbw, Zbx, Zby, Zbz, Zb0, Zb1, Zb2, decide_true, decide_false, Zb3, Zb4, Zb5, Zb6, Zb7, Zb8, Zb9, Zca, Zcb, Zcc, Zcd, beq_self_eq_true, cond_true, cond_false, if_false, if_true, reduceIte, reduceCtorEq, not_true_eq_false, not_false_eq_true, true_and, and_true, forall_const, false_and, and_false, implies_true, Zce, Zcf, Zcg, Zch, Zci]
        refine conj.of (by omega) ?_
        simp (disch := omega) only [hF, Int.toNat_natCast, hsl, ↓ZD, ZU, ne_eq, Zaa, Zab, false_implies, Zac, Zad, Zae, Zaf, Zag, Zah, Zai, Zaj, Zak, Zal, Zam, Zan, Zao, Zap, Zaq, Zar, Zas, Zat, Zau, Zav, Zaw, Zax, Zay, Zaz, Za0, Za1, Za2, Za3, Za4, Za5, Za6, Za7, Za8, Za9, Zba, Zbb, Zbc, Zbd, Zbe, Zbf, Zbg, Zbh, Zbi, Zbj, Zbk, Zbl, Zbm, Zbn, Zbo, Zbp, Zbq, Zbr, Zbs, Zbt, Zbu, Zbv, Zbw, Zbx, Zby, Zbz, Zb0, Zb1, Zb2, decide_true, decide_false, Zb3, Zb4, Zb5, Zb6, Zb7, Zb8, Zb9, Zca, Zcb, Zcc, Zcd, beq_self_eq_true, cond_true, cond_false, if_false, if_true, reduceIte, reduceCtorEq, not_true_eq_false, not_false_eq_true, true_and, and_true, forall_const, false_and, and_false, implies_true, Zce, Zcf, Zcg, Zch, Zci]
        rfl
    · by_cases hz : (readD false ((c :: r).takeWhile isD)).2 = 0
      · rw [if_neg (by simpa using hz), if_neg hne]
        exact ⟨hz, rfl, rfl, rfl⟩
      · rw [if_pos (by simpa using hz)]
        exact ⟨rfl, hz⟩
  have h2 : isD c = false := by simpa using h2
  by_cases h3 : c = 34
  · have hx : oneX (c :: r) = ((3, (qX (c :: r)).1, 0), (qX (c :: r)).2, 0) := by
      unfold oneX; rw [List.getD_cons_zero, if_neg (by rw [h1]; simp), if_neg (by rw [h2]; simp), if_pos h3]
    have hq := rquoted_pure F s i h0 hs
    rw [hdr] at hq
    have hqe : qX (c :: r) = match clo false r with | none => ([], 0) | some k => (match unquote ((c :: r).take (k + 1)) with | none => ([], 0) | some t => (t, k + 1)) := rfl
    rw [hx]
    have e34 : ((c.toNat : Int) == 34) = true := by rw [h3]; rfl
    cases hcl : clo false r with
    | none =>
      rw [hcl] at hq hqe
      simp only at hq
      rw [hqe]
      refine ⟨0, [], 0, 0, i, 10, ?_, ?_⟩
      · refine pureV_of_svc mixed Tryd.func15 low15 (Nat.le_of_ble_eq_true rfl) (fun w0 => ?_)
        simp (disch := omega) only [fu15, ↓ZD, ZU, ne_eq, Zaa, Zab, false_implies, Zac, Zad, Zae, Zaf, Zag, Zah, Zai, Zaj, Zak, Zal, Zam, Zan, Zao, Zap, Zaq, Zar, Zas, Zat, Zau, Zav, Zaw, Zax, Zay, Zaz, Za0, Za1, Za2, Za3, Za4, Za5, Za6, Za7, Za8, Za9, Zba, Zbb, Zbc, Zbd, Zbe, Zbf, Zbg, Zbh, Zbi, Zbj, Zbk, Zbl, Zbm, Zbn, Zbo, Zbp, Zbq, Zbr, Zbs, Zbt, Zbu, Zbv, Zbw, Zbx, Zby, Zbz, Zb0, Zb1, Zb2, decide_true, decide_false, Zb3, Zb4, Zb5, Zb6, Zb7, Zb8, Zb9, Zca, Zcb, Zcc, Zcd, beq_self_eq_true, cond_true, cond_false, if_false, if_true, reduceIte, reduceCtorEq, not_true_eq_false, not_false_eq_true, true_and, and_true, forall_const, false_and, and_false, implies_true, Zce, Zcf, Zcg, Zch, Zci]
        refine NewB.of fun b hb hF => ?_
        simp (disch := omega) only [hF, ↓ZD, ZU, ne_eq, Zaa, Zab, false_implies, Zac, Zad, Zae, Zaf, Zag, Zah, Zai, Zaj, Zak, Zal, Zam, Zan, Zao, Zap, Zaq, Zar, Zas, Zat, Zau, Zav, Zaw, Zax, Zay, Zaz, Za0, Za1, Za2, Za3, Za4, Za5, Za6, Za7, Za8, Za9, Zba, Zbb, Zbc, Zbd, Zbe, Zbf, Zbg, Zbh, Zbi, Zbj, Zbk, Zbl, Zbm, Zbn, Zbo, Zbp, Zbq, Zbr, Zbs, Zbt, Zbu, Zbv, Zbw, Zbx, Zby, Zbz, Zb0, Zb1, Zb2, decide_true, decide_false, Zb3, Zb4, Zb5, Zb6, Zb7, Zb8, Zb9, Zca, Zcb, Zcc, Zcd, beq_self_eq_true, cond_true, cond_false, if_false, if_true, reduceIte, reduceCtorEq, not_true_eq_false, not_false_eq_true, true_and, and_true, forall_const, false_and, and_false, implies_true, Zce, Zcf, Zcg, Zch, Zci]
        refine conj.of (by omega) ?_
        simp (disch := omega) only [hF, Int.toNat_natCast, hc, ↓ZD, ZU, ne_eq, Zaa, Zab, false_implies, Zac, Zad, Zae, Zaf, Zag, Zah, Zai, Zaj, Zak, Zal, Zam, Zan, Zao, Zap, Zaq, Zar, Zas, Zat, Zau, Zav, Zaw, Zax, Zay, Zaz, Za0, Za1, Za2, Za3, Za4, Za5, Za6, Za7, Za8, Za9, Zba, Zbb, Zbc, Zbd, Zbe, Zbf, Zbg, Zbh, Zbi, Zbj, Zbk, Zbl, Zbm, Zbn, Zbo, Zbp, Zbq, Zbr, Zbs, Zbt, Zbu, Zbv, Zbw, Zbx, Zby, Zbz, Zb0, Zb1, Zb2, decide_true, decide_false, Zb3, Zb4, Zb5, Zb6, Zb7, Zb8, Zb9, Zca, Zcb, Zcc, Zcd, beq_self_eq_true, cond_true, cond_false, if_false, if_true, reduceIte, reduceCtorEq, not_true_eq_false, not_false_eq_true, true_and, and_true, forall_const, false_and, and_false, implies_true, Zce, Zcf, Zcg, Zch, Zci]
        refine CallE.pure (rletter_pure F c) ?_
        simp (disch := omega) only [hF, ↓ZD, ZU, ne_eq, Zaa, Zab, false_implies, Zac, Zad, Zae, Zaf, Zag, Zah, Zai, Zaj, Zak, Zal, Zam, Zan, Zao, Zap, Zaq, Zar, Zas, Zat, Zau, Zav, Zaw, Zax, Zay, Zaz, Za0, Za1, Za2, Za3, Za4, Za5, Za6, Za7, Za8, Za9, Zba, Zbb, Zbc, Zbd, Zbe, Zbf, Zbg, Zbh, Zbi, Zbj, Zbk, Zbl, Zbm, Zbn, Zbo, Zbp, Zbq, Zbr, Zbs, Zbt, Zbu, Zbv, Zbw, Zbx, Zby, Zbz, Zb0, Zb1, Zb2, decide_true, decide_false, Zb3, Zb4, Zb5, Zb6, Zb7, Zb8, Zb9, Zca, Zcb, Zcc, Zcd, beq_self_eq_true, cond_true, cond_false, if_false, if_true, reduceIte, reduceCtorEq, not_true_eq_false, not_false_eq_true, true_and, and_true, forall_const, false_and, and_false, implies_true, Zce, Zcf, Zcg, Zch, Zci]
        refine ⟨fun h => (by rw [h1] at h; cases h), fun _ => ?_⟩
        refine CallE.pure (rdigit_pure F c) ?_
        simp (disch := omega) only [hF, h2, e34, ↓ZD, ZU, ne_eq, Zaa, Zab, false_implies, Zac, Zad, Zae, Zaf, Zag, Zah, Zai, Zaj, Zak, Zal, Zam, Zan, Zao, Zap, Zaq, Zar, Zas, Zat, Zau, Zav, Zaw, Zax, Zay, Zaz, Za0, Za1, Za2, Za3, Za4, Za5, Za6, Za7, Za8, Za9, Zba, Zbb, Zbc, Zbd, Zbe, Zbf, Zbg, Zbh, Zbi, Zbj, Zbk, Zbl, Zbm, Zbn, Zbo, Zbp, Zbq, Zbr, Zbs, Zbt, Zbu, Zbv, Zbw, Zbx, Zby, Zbz, Zb0, Zb1, Zb2, decide_true, decide_false, Zb3, Zb4, Zb5, Zb6, Zb7, Zb8, Zb9, Zca, Zcb, Zcc, Zcd, beq_self_eq_true, cond_true, cond_false, if_false, if_true, reduceIte, reduceCtorEq, not_true_eq_false, not_false_eq_true, true_and, and_true, forall_const, false_and, and_false, implies_true, Zce, Zcf, Zcg, Zch, Zci]
        refine CallE.pure hq ?_
        simp (disch := omega) only [hF, ↓ZD, ZU, ne_eq, Zaa, Zab, false_implies, Zac, Zad, Zae, Zaf, Zag, Zah, Zai, Zaj, Zak, Zal, Zam, Zan, Zao, Zap, Zaq, Zar, Zas, Zat, Zau, Zav, Zaw, Zax, Zay, Zaz, Za0, Za1, Za2, Za3, Za4, Za5, Za6, Za7, Za8, Za9, Zba, Zbb, Zbc, Zbd, Zbe, Zbf, Zbg, Zbh, Zbi, Zbj, Zbk, Zbl, Zbm, Zbn, Zbo, Zbp, Zbq, Zbr, Zbs, Zbt, Zbu, Zbv, Zbw, Zbx, Zby, Zbz, Zb0, Zb1, Zb2, decide_true, decide_false, Zb3, Zb4, Zb5, Zb6, Zb7, Zb8, Zb9, Zca, Zcb, Zcc, Zcd, beq_self_eq_true, cond_true, cond_false, if_false, if_true, reduceIte, reduceCtorEq, not_true_eq_false, not_false_eq_true, true_and, and_true, forall_const, false_and, and_false, implies_true, Zce, Zcf, Zcg, Zch, Zci]
        rfl
      · exact ⟨rfl, by decide⟩
    | some k =>
      have hk := clo_le _ _ _ hcl
      rw [hcl] at hq hqe
      simp only at hq hqe
      have hsl : (s.take (i + 1 + k)).drop i = (c :: r).take (k + 1) := by
        rw [show i + 1 + k = i + (k + 1) by omega, slice_eq, hcr]
      have hu := runquote_pure F ((c :: r).take (k + 1)) (by rw [List.length_take]; omega)
      rw [← unquote_ref] at hu
      cases hun : unquote ((c :: r).take (k + 1)) with
      | none =>
        rw [hun] at hqe hu
        unfold retU at hu
        rw [hqe]
        refine ⟨3, [], 0, i, i + 1 + k, 10, ?_, ?_⟩
        · refine pureV_of_svc mixed Tryd.func15 low15 (Nat.le_of_ble_eq_true rfl) (fun w0 => ?_)
          simp (disch := omega) only [fu15, ↓ZD, ZU, ne_eq, Zaa, Zab, false_implies, Zac, Zad, Zae, Zaf, Zag, Zah, Zai, Zaj, Zak, Zal, Zam, Zan, Zao, Zap, Zaq, Zar, Zas, Zat, Zau, Zav, Zaw, Zax, Zay, Zaz, Za0, Za1, Za2, Za3, Za4, Za5, Za6, Za7, Za8, Za9, Zba, Zbb, Zbc, Zbd, Zbe, Zbf, Zbg, Zbh, Zbi, Zbj, Zbk, Zbl, Zbm, Zbn, Zbo, Zbp, Zbq, Zbr, Zbs, Zbt, Zbu, Zbv, Zbw, Zbx, Zby, Zbz, Zb0, Zb1, Zb2, decide_true, decide_false, Zb3, Zb4, Zb5, Zb6, Zb7, Zb8, Zb9, Zca, Zcb, Zcc, Zcd, beq_self_eq_true, cond_true, cond_false, if_false, if_true, reduceIte, reduceCtorEq, not_true_eq_false, not_false_eq_true, true_and, and_true, forall_const, false_and, and_false, implies_true, Zce, Zcf, Zcg, Zch, Zci]
          refine NewB.of fun b hb hF => ?_
          simp (disch := omega) only [hF, ↓ZD, ZU, ne_eq, Zaa, Zab, false_implies, Zac, Zad, Zae, Zaf, Zag, Zah, Zai, Zaj, Zak, Zal, Zam, Zan, Zao, Zap, Zaq, Zar, Zas, Zat, Zau, Zav, Zaw, Zax, Zay, Zaz, Za0, Za1, Za2, Za3, Za4, Za5, Za6, Za7, Za8, Za9, Zba, Zbb, Zbc, Zbd, Zbe, Zbf, Zbg, Zbh, Zbi, Zbj, Zbk, Zbl, Zbm, Zbn, Zbo, Zbp, Zbq, Zbr, Zbs, Zbt, Zbu, Zbv, Zbw, Zbx, Zby, Zbz, Zb0, Zb1, Zb2, decide_true, decide_false, Zb3, Zb4, Zb5, Zb6, Zb7, Zb8, Zb9, Zca, Zcb, Zcc, Zcd, beq_self_eq_true, cond_true, cond_false, if_false, if_true, reduceIte, reduceCtorEq, not_true_eq_false, not_false_eq_true, true_and, and_true, forall_const, false_and, and_false, implies_true, Zce, Zcf, Zcg, Zch, Zci]
          refine conj.of (by omega) ?_
          simp (disch := omega) only [hF, Int.toNat_natCast, hc, ↓ZD, ZU, ne_eq, Zaa, Zab, false_implies, Zac, Zad, Zae, Zaf, Zag, Zah, Zai, Zaj, Zak, Zal, Zam, Zan, Zao, Zap, Zaq, Zar, Zas, Zat, Zau, Zav, Zaw, Zax, Zay, Zaz, Za0, Za1, Za2, Za3, Za4, Za5, Za6, Za7, Za8, Za9, Zba, Zbb, Zbc, Zbd, Zbe, Zbf, Zbg, Zbh, Zbi, Zbj, Zbk, Zbl, Zbm, Zbn, Zbo, Zbp, Zbq, Zbr, Zbs, Zbt, Zbu, Zbv, Zbw, Zbx, Zby, Zbz, Zb0, Zb1, Zb2, decide_true, decide_false, Zb3, Zb4, Zb5, Zb6, Zb7, Zb8, Zb9, Zca, Zcb, Zcc, Zcd, beq_self_eq_true, cond_true, cond_false, if_false, if_true, reduceIte, reduceCtorEq, not_true_eq_false, not_false_eq_true, true_and, and_true, forall_const, false_and, and_false, implies_true, Zce, Zcf, Zcg, Zch, Zci]
          refine CallE.pure (rletter_pure F c) ?_
          simp (disch := omega) only [hF, ↓ZD, ZU, ne_eq, Zaa, Zab, false_implies, Zac, Zad, Zae, Zaf, Zag, Zah, Zai, Zaj, Zak, Zal, Zam, Zan, Zao, Zap, Zaq, Zar, Zas, Zat, Zau, Zav, Zaw, Zax, Zay, Zaz, Za0, Za1, Za2, Za3, Za4, Za5, Za6, Za7, Za8, Za9, Zba, Zbb, Zbc, Zbd, Zbe, Zbf, Zbg, Zbh, Zbi, Zbj, Zbk, Zbl, Zbm, Zbn, Zbo, Zbp, Zbq, Zbr, Zbs, Zbt, Zbu, Zbv, Zbw, Zbx, Zby, Zbz, Zb0, Zb1, Zb2, decide_true, decide_false, Zb3, Zb4, Zb5, Zb6, Zb7, Zb8, Zb9, Zca, Zcb, Zcc, Zcd, beq_self_eq_true, cond_true, cond_false, if_false, if_true, reduceIte, reduceCtorEq, not_true_eq_false, not_false_eq_true, true_and, and_true, forall_const, false_and, and_false, implies_true, Zce, Zcf, Zcg, Zch, Zci]
          refine ⟨fun h => (by rw [h1] at h; cases h), fun _ => ?_⟩
          refine CallE.pure (rdigit_pure F c) ?_
          simp (disch := omega) only [hF, h2, e34, ↓ZD, ZU, ne_eq, Zaa, Zab, false_implies, Zac, Zad, Zae, Zaf, Zag, Zah, Zai, Zaj, Zak, Zal, Zam, Zan, Zao, Zap, Zaq, Zar, Zas, Zat, Zau, Zav, Zaw, Zax, Zay, Zaz, Za0, Za1, Za2, Za3, Za4, Za5, Za6, Za7, Za8, Za9, Zba, Zbb, Zbc, Zbd, Zbe, Zbf, Zbg, Zbh, Zbi, Zbj, Zbk, Zbl, Zbm, Zbn, Zbo, Zbp, Zbq, Zbr, Zbs, Zbt, Zbu, Zbv, Zbw, Zbx, Zby, Zbz, Zb0, Zb1, Zb2, decide_true, decide_false, Zb3, Zb4, Zb5, Zb6, Zb7, Zb8, Zb9, Zca, Zcb, Zcc, Zcd, beq_self_eq_true, cond_true, cond_false, if_false, if_true, reduceIte, reduceCtorEq, not_true_eq_false, not_false_eq_true, true_and, and_true, forall_const, false_and, and_false, implies_true, Zce, Zcf, Zcg, Zch, Zci]
          refine CallE.pure hq ?_
          simp (disch := omega) only [hF, ↓ZD, ZU, ne_eq, Zaa, Zab, false_implies, Zac, Zad, Zae, Zaf, Zag, Zah, Zai, Zaj, Zak, Zal, Zam, Zan, Zao, Zap, Zaq, Zar, Zas, Zat, Zau, Zav, Zaw, Zax, Zay, Zaz, Za0, Za1, Za2, Za3, Za4, Za5, Za6, Za7, Za8, Za9, Zba, Zbb, Zbc, Zbd, Zbe, Zbf, Zbg, Zbh, Zbi, Zbj, Zbk, Zbl, Zbm, Zbn, Zbo, Zbp, Zbq, Zbr, Zbs, Zbt, Zbu, Zbv, Zbw, Zbx, Zby, Zbz, Zb0, Zb1, Zb2, decide_true, decide_false, Zb3, Zb4, Zb5, Zb6, Zb7, Zb8, Zb9, Zca, Zcb, Zcc, Zcd, beq_self_eq_true, cond_true, cond_false, if_false, if_true, reduceIte, reduceCtorEq, not_true_eq_false, not_false_eq_true, true_and, and_true, forall_const, false_and, and_false, implies_true, Zce, Zcf, Zcg, Zch, Zci]
          refine ⟨fun h => ?_, fun _ => ?_⟩
          · have : ((i + 1 + k : Nat) : Int) = i := by simpa using h
            omega
          refine conj.of (by omega) ?_
          simp (disch := omega) only [hF, Int.toNat_natCast, hsl, ↓ZD, ZU, ne_eq, Zaa, Zab, false_implies, Zac, Zad, Zae, Zaf, Zag, Zah, Zai, Zaj, Zak, Zal, Zam, Zan, Zao, Zap, Zaq, Zar, Zas, Zat, Zau, Zav, Zaw, Zax, Zay, Zaz, Za0, Za1, Za2, Za3, Za4, Za5, Za6, Za7, Za8, Za9, Zba, Zbb, Zbc, Zbd, Zbe, Zbf, Zbg, Zbh, Zbi, Zbj, Zbk, Zbl, Zbm, Zbn, Zbo, Zbp, Zbq, Zbr, Zbs, Zbt, Zbu, Zbv, Zbw, Zbx, Zby, Zbz, Zb0, Zb1, Zb2, decide_true, decide_false, Zb3, Zb4, Zb5, Zb6, Zb7, Zb8, Zb9, Zca, Zcb, Zcc, Zcd, beq_self_eq_true, cond_true, cond_false, if_false, if_true, reduceIte, reduceCtorEq, not_true_eq_false, not_false_eq_true, true_and, and_true, forall_const, false_and, and_false, implies_true, Zce, Zcf, Zcg, Zch, Zci]
          refine CallE.pure hu ?_
          simp (disch := omega) only [hF, ↓ZD, ZU, ne_eq, Zaa, Zab, false_implies, Zac, Zad, Zae, Zaf, Zag, Zah, Zai, Zaj, Zak, Zal, Zam, Zan, Zao, Zap, Zaq, Zar, Zas, Zat, Zau, Zav, Zaw, Zax, Zay, Zaz, Za0, Za1, Za2, Za3, Za4, Za5, Za6, Za7, Za8, Za9, Zba, Zbb, Zbc, Zbd, Zbe, Zbf, Zbg, Zbh, Zbi, Zbj, Zbk, Zbl, Zbm, Zbn, Zbo, Zbp, Zbq, Zbr, Zbs, Zbt, Zbu, Zbv, Zbw, Zbx, Zby, Zbz, Zb0, Zb1, Zb2, decide_true, decide_false, Zb3, Zb4, Zb5, Zb6, Zb7, Zb8, Zb9, Zca, Zcb, Zcc, Zcd, beq_self_eq_true, cond_true, cond_false, if_false, if_true, reduceIte, reduceCtorEq, not_true_eq_false, not_false_eq_true, true_and, and_true, forall_const, false_and, and_false, implies_true, Zce, Zcf, Zcg, Zch, Zci]
          rfl
        · exact ⟨rfl, by decide⟩
      | some t =>
        rw [hun] at hqe hu
        unfold retU at hu
        rw [hqe]
        refine ⟨3, t, 0, i, i + 1 + k, 0, ?_, ?_⟩
        · refine pureV_of_svc mixed Tryd.func15 low15 (Nat.le_of_ble_eq_true rfl) (fun w0 => ?_)
          simp (disch := omega) only [fu15, ↓ZD, ZU, ne_eq, Zaa, Zab, false_implies, Zac, Zad, Zae, Zaf, Zag, Zah, Zai, Zaj, Zak, Zal, Zam, Zan, Zao, Zap, Zaq, Zar, Zas, Zat, Zau, Zav, Zaw, Zax, Zay, Zaz, Za0, Za1, Za2, Za3, Za4, Za5, Za6, Za7, Za8, Za9, Zba, Zbb, Zbc, Zbd, Zbe, Zbf, Zbg, Zbh, Zbi, Zbj, Zbk, Zbl, Zbm, Zbn, Zbo, Zbp, Zbq, Zbr, Zbs, Zbt, Zbu, Zbv, Zbw, Zbx, Zby, Zbz, Zb0, Zb1, Zb2, decide_true, decide_false, Zb3, Zb4, Zb5, Zb6, Zb7, Zb8, Zb9, Zca, Zcb, Zcc, Zcd, beq_self_eq_true, cond_true, cond_false, if_false, if_true, reduceIte, reduceCtorEq, not_true_eq_false, not_false_eq_true, true_and, and_true, forall_const, false_and, and_false, implies_true, Zce, Zcf, Zcg, Zch, Zci]
          refine NewB.of fun b hb hF => ?_
          simp (disch := omega) only [hF, ↓ZD, ZU, ne_eq, Zaa, Zab, false_implies, Zac, Zad, Zae, Zaf, Zag, Zah, Zai, Zaj, Zak, Zal, Zam, Zan, Zao, Zap, Zaq, Zar, Zas, Zat, Zau, Zav, Zaw, Zax, Zay, Zaz, Za0, Za1, Za2, Za3, Za4, Za5, Za6, Za7, Za8, Za9, Zba, Zbb, Zbc, Zbd, Zbe, Zbf, Zbg, Zbh, Zbi, Zbj, Zbk, Zbl, Zbm, Zbn, Zbo, Zbp, Zbq, Zbr, Zbs, Zbt, Zbu, Zbv, Zbw, Zbx, Zby, Zbz, Zb0, Zb1, Zb2, decide_true, decide_false, Zb3, Zb4, Zb5, Zb6, Zb7, Zb8, Zb9, Zca, Zcb, Zcc, Zcd, beq_self_eq_true, cond_true, cond_false, if_false, if_true, reduceIte, reduceCtorEq, not_true_eq_false, not_false_eq_true, true_and, and_true, forall_const, false_and, and_false, implies_true, Zce, Zcf, Zcg, Zch, Zci]
          refine conj.of (by omega) ?_
          simp (disch := omega) only [hF, Int.toNat_natCast, hc, ↓ZD, ZU, ne_eq, Zaa, Zab, false_implies, Zac, Zad, Zae, Zaf, Zag, Zah, Zai, Zaj, Zak, Zal, Zam, Zan, Zao, Zap, Zaq, Zar, Zas, Zat, Zau, Zav, Zaw, Zax, Zay, Zaz, Za0, Za1, Za2, Za3, Za4, Za5, Za6, Za7, Za8, Za9, Zba, Zbb, Zbc, Zbd, Zbe, Zbf, Zbg, Zbh, Zbi, Zbj, Zbk, Zbl, Zbm, Zbn, Zbo, Zbp, Zbq, Zbr, Zbs, Zbt, Zbu, Zbv, Zbw, Zbx, Zby, Zbz, Zb0, Zb1, Zb2, decide_true, decide_false, Zb3, Zb4, Zb5, Zb6, Zb7, Zb8, Zb9, Zca, Zcb, Zcc, Zcd, beq_self_eq_true, cond_true, cond_false, if_false, if_true, reduceIte, reduceCtorEq, not_true_eq_false, not_false_eq_true, true_and, and_true, forall_const, false_and, and_false, implies_true, Zce, Zcf, Zcg, Zch, Zci]
          refine CallE.pure (rletter_pure F c) ?_
          simp (disch := omega) only [hF, ↓ZD, ZU, ne_eq, Zaa, Zab, false_implies, Zac, Zad, Zae, Zaf, Zag, Zah, Zai, Zaj, Zak, Zal, Zam, Zan, Zao, Zap, Zaq, Zar, Zas, Zat, Zau, Zav, Zaw, Zax, Zay, Zaz, Za0, Za1, Za2, Za3, Za4, Za5, Za6, Za7, Za8, Za9, Zba, Zbb, Zbc, Zbd, Zbe, Zbf, Zbg, Zbh, Zbi, Zbj, Zbk, Zbl, Zbm, Zbn, Zbo, Zbp, Zbq, Zbr, Zbs, Zbt, Zbu, Zbv, Zbw, Zbx, Zby, Zbz, Zb0, Zb1, Zb2, decide_true, decide_false, Zb3, Zb4, Zb5, Zb6, Zb7, Zb8, Zb9, Zca, Zcb, Zcc, Zcd, beq_self_eq_true, cond_true, cond_false, if_false, if_true, reduceIte, reduceCtorEq, not_true_eq_false, not_false_eq_true, true_and, and_true, forall_const, false_and, and_false, implies_true, Zce, Zcf, Zcg, Zch, Zci]
          refine ⟨fun h => (by rw [h1] at h; cases h), fun _ => ?_⟩
          refine CallE.pure (rdigit_pure F c) ?_
          simp (disch := omega) only [hF, h2, e34, ↓ZD, ZU, ne_eq, Zaa, Zab, false_implies, Zac, Zad, Zae, Zaf, Zag, Zah, Zai, Zaj, Zak, Zal, Zam, Zan, Zao, Zap, Zaq, Zar, Zas, Zat, Zau, Zav, Zaw, Zax, Zay, Zaz, Za0, Za1, Za2, Za3, Za4, Za5, Za6, Za7, Za8, Za9, Zba, Zbb, Zbc, Zbd, Zbe, Zbf, Zbg, Zbh, Zbi, Zbj, Zbk, Zbl, Zbm, Zbn, Zbo, Zbp, Zbq, Zbr, Zbs, Zbt, Zbu, Zbv, Zbw, Zbx, Zby, Zbz, Zb0, Zb1, Zb2, decide_true, decide_false, Zb3, Zb4, Zb5, Zb6, Zb7, Zb8, Zb9, Zca, Zcb, Zcc, Zcd, beq_self_eq_true, cond_true, cond_false, if_false, if_true, reduceIte, reduceCtorEq, not_true_eq_false, not_false_eq_true, true_and, and_true, forall_const, false_and, and_false, implies_true, Zce, Zcf, Zcg, Zch, Zci]
          refine CallE.pure hq ?_
          simp (disch := omega) only [hF, ↓ZD, ZU, ne_eq, Zaa, Zab, false_implies, Zac, Zad, Zae, Zaf, Zag, Zah, Zai, Zaj, Zak, Zal, Zam, Zan, Zao, Zap, Zaq, Zar, Zas, Zat, Zau, Zav, Zaw, Zax, Zay, Zaz, Za0, Za1, Za2, Za3, Za4, Za5, Za6, Za7, Za8, Za9, Zba, Zbb, Zbc, Zbd, Zbe, Zbf, Zbg, Zbh, Zbi, Zbj, Zbk, Zbl, Zbm, Zbn, Zbo, Zbp, Zbq, Zbr, Zbs, Zbt, Zbu, Zbv, Zbw, Zbx, Zby, Zbz, Zb0, Zb1, Zb2, decide_true, decide_false, Zb3, Zb4, Zb5, Zb6, Zb7, Zb8, Zb9, Zca, Zcb, Zcc, Zcd, beq_self_eq_true, cond_true, cond_false, if_false, if_true, reduceIte, reduceCtorEq, not_true_eq_false, not_false_eq_true, true_and, and_true, forall_const, false_and, and_false, implies_true, Zce, Zcf, Zcg, Zch, Zci]
          refine ⟨fun h => ?_, fun _ => ?_⟩
          · have : ((i + 1 + k : Nat) : Int) = i := by simpa using h
            omega
          refine conj.of (by omega) ?_
          simp (disch := omega) only [hF, Int.toNat_natCast, hsl, ↓ZD, ZU, ne_eq, Zaa, Zab, false_implies, Zac, Zad, Zae, Zaf, Zag, Zah, Zai, Zaj, Zak, Zal, Zam, Zan, Zao, Zap, Zaq, Zar, Zas, Zat, Zau, Zav, Zaw, Zax, Zay, Zaz, Za0, Za1, Za2, Za3, Za4, Za5, Za6, Za7, Za8, Za9, Zba, Zbb, Zbc, Zbd, Zbe, Zbf, Zbg, Zbh, Zbi, Zbj, Zbk, Zbl, Zbm, Zbn, Zbo, Zbp, Zbq, Zbr, Zbs, Zbt, Zbu, Zbv, Zbw, Zbx, Zby, Zbz, Zb0, Zb1, Zb2, decide_true, decide_false, Zb3, Zb4, Zb5, Zb6, Zb7, Zb8, Zb9, Zca, Zcb, Zcc, Zcd, beq_self_eq_true, cond_true, cond_false, if_false, if_true, reduceIte, reduceCtorEq, not_true_eq_false, not_false_eq_true, true_and, and_true, forall_const, false_and, and_false, implies_true, Zce, Zcf, Zcg, Zch, Zci]
          refine CallE.pure hu ?_
          simp (disch := omega) only [hF, ↓ZD, ZU, ne_eq, Zaa, Zab, false_implies, Zac, Zad, Zae, Zaf, Zag, Zah, Zai, Zaj, Zak, Zal, Zam, Zan, Zao, Zap, Zaq, Zar, Zas, Zat, Zau, Zav, Zaw, Zax, Zay, Zaz, Za0, Za1, Za2, Za3, Za4, Za5, Za6, Za7, Za8, Za9, Zba, Zbb, Zbc, Zbd, Zbe, Zbf, Zbg, Zbh, Zbi, Zbj, Zbk, Zbl, Zbm, Zbn, Zbo, Zbp, Zbq, Zbr, Zbs, Zbt, Zbu, Zbv, Zbw, Zbx, Zby, Zbz, Zb0, Zb1, Zb2, decide_true, decide_false, Zb3, Zb4, Zb5, Zb6, Zb7, Zb8, Zb9, Zca, Zcb, Zcc, Zcd, beq_self_eq_true, cond_true, cond_false, if_false, if_true, reduceIte, reduceCtorEq, not_true_eq_false, not_false_eq_true, true_and, and_true, forall_const, false_and, and_false, implies_true, Zce, Zcf, Zcg, Zch, Zci]
          rfl
        · rw [if_neg (by simp), if_neg (by simp)]
          exact ⟨rfl, by show i + 1 + k = i + (k + 1); omega, rfl, rfl⟩
  have e34 : ((c.toNat : Int) == 34) = false := by
    rw [Bool.eq_false_iff]; intro h; exact h3 (eqC h)
  by_cases h4 : c = 63
  · have hx : oneX (c :: r) = if nameX r = [] then ((0, [], 0), 0, 0) else ((4, nameX r, 0), (nameX r).length + 1, 0) := by
      unfold oneX; rw [List.getD_cons_zero, if_neg (by rw [h1]; simp), if_neg (by rw [h2]; simp), if_neg h3, if_pos h4]; rfl
    have hn := rname_at F s (i + 1) (by omega) hs
    rw [hdr] at hn
    rw [show ((i + 1 : Nat) : Int) = (i : Int) + 1 from rfl] at hn
    have hi1 : ((i : Int) + 1).toNat = i + 1 := by omega
    have hle := nameX_le r
    have e63 : ((c.toNat : Int) == 63) = true := by rw [h4]; rfl
    rw [hx]
    by_cases he : nameX r = []
    · rw [if_pos he]
      rw [he] at hn
      refine ⟨0, [], 0, 0, i, 10, ?_, ⟨rfl, by decide⟩⟩
      refine pureV_of_svc mixed Tryd.func15 low15 (Nat.le_of_ble_eq_true rfl) (fun w0 => ?_)
      simp (disch := omega) only [fu15, ↓ZD, ZU, ne_eq, Zaa, Zab, false_implies, Zac, Zad, Zae, Zaf, Zag, Zah, Zai, Zaj, Zak, Zal, Zam, Zan, Zao, Zap, Zaq, Zar, Zas, Zat, Zau, Zav, Zaw, Zax, Zay, Zaz, Za0, Za1, Za2, Za3, Za4, Za5, Za6, Za7, Za8, Za9, Zba, Zbb, Zbc, Zbd, Zbe, Zbf, Zbg, Zbh, Zbi, Zbj, Zbk, Zbl, Zbm, Zbn, Zbo, Zbp, Zbq, Zbr, Zbs, Zbt, Zbu, Zbv, Zbw, Zbx, Zby, Zbz, Zb0, Zb1, Zb2, decide_true, decide_false, Zb3, Zb4, Zb5, Zb6, Zb7, Zb8, Zb9, Zca, Zcb, Zcc, Zcd, beq_self_eq_true, cond_true, cond_false, if_false, if_true, reduceIte, reduceCtorEq, not_true_eq_false, not_false_eq_true, true_and, and_true, forall_const, false_and, and_false, implies_true, Zce, Zcf, Zcg, Zch, Zci]
      refine NewB.of fun b hb hF => ?_
      simp (disch := omega) only [hF, ↓ZD, ZU, ne_eq, Zaa, Zab, false_implies, Zac, Zad, Zae, Zaf, Zag, Zah, Zai, Zaj, Zak, Zal, Zam, Zan, Zao, Zap, Zaq, Zar, Zas, Zat, Zau, Zav, Zaw, Zax, Zay, Zaz, Za0, Za1, Za2, Za3, Za4, Za5, Za6, Za7, Za8, Za9, Zba, Zbb, Zbc, Zbd, Zbe, Zbf, Zbg, Zbh, Zbi, Zbj, Zbk, Zbl, Zbm, Zbn, Zbo, Zbp, Zbq, Zbr, Zbs, Zbt, Zbu, Zbv, Zbw, Zbx, Zby, Zbz, Zb0, Zb1, Zb2, decide_true, decide_false, Zb3, Zb4, Zb5, Zb6, Zb7, Zb8, Zb9, Zca, Zcb, Zcc, Zcd, beq_self_eq_true, cond_true, cond_false, if_false, if_true, reduceIte, reduceCtorEq, not_true_eq_false, not_false_eq_true, true_and, and_true, forall_const, false_and, and_false, implies_true, Zce, Zcf, Zcg, Zch, Zci]
      refine conj.of (by omega) ?_
      simp (disch := omega) only [hF, Int.toNat_natCast, hc, ↓ZD, ZU, ne_eq, Zaa, Zab, false_implies, Zac, Zad, Zae, Zaf, Zag, Zah, Zai, Zaj, Zak, Zal, Zam, Zan, Zao, Zap, Zaq, Zar, Zas, Zat, Zau, Zav, Zaw, Zax, Zay, Zaz, Za0, Za1, Za2, Za3, Za4, Za5, Za6, Za7, Za8, Za9, Zba, Zbb, Zbc, Zbd, Zbe, Zbf, Zbg, Zbh, Zbi, Zbj, Zbk, Zbl, Zbm, Zbn, Zbo, Zbp, Zbq, Zbr, Zbs, Zbt, Zbu, Zbv, Zbw, Zbx, Zby, Zbz, Zb0, Zb1, Zb2, decide_true, decide_false, Zb3, Zb4, Zb5, Zb6, Zb7, Zb8, Zb9, Zca, Zcb, Zcc, Zcd, beq_self_eq_true, cond_true, cond_false, if_false, if_true, reduceIte, reduceCtorEq, not_true_eq_false, not_false_eq_true, true_and, and_true, forall_const, false_and, and_false, implies_true, Zce, Zcf, Zcg, Zch, Zci]
      refine CallE.pure (rletter_pure F c) ?_
      simp (disch := omega) only [hF, ↓ZD, ZU, ne_eq, Zaa, Zab, false_implies, Zac, Zad, Zae, Zaf, Zag, Zah, Zai, Zaj, Zak, Zal, Zam, Zan, Zao, Zap, Zaq, Zar, Zas, Zat, Zau, Zav, Zaw, Zax, Zay, Zaz, Za0, Za1, Za2, Za3, Za4, Za5, Za6, Za7, Za8, Za9, Zba, Zbb, Zbc, Zbd, Zbe, Zbf, Zbg, Zbh, Zbi, Zbj, Zbk, Zbl, Zbm, Zbn, Zbo, Zbp, Zbq, Zbr, Zbs, Zbt, Zbu, Zbv, Zbw, Zbx, Zby, Zbz, Zb0, Zb1, Zb2, decide_true, decide_false, Zb3, Zb4, Zb5, Zb6, Zb7, Zb8, Zb9, Zca, Zcb, Zcc, Zcd, beq_self_eq_true, cond_true, cond_false, if_false, if_true, reduceIte, reduceCtorEq, not_true_eq_false, not_false_eq_true, true_and, and_true, forall_const, false_and, and_false, implies_true, Zce, Zcf, Zcg, Zch, Zci]
      refine ⟨fun h => (by rw [h1] at h; cases h), fun _ => ?_⟩
      refine CallE.pure (rdigit_pure F c) ?_
      simp (disch := omega) only [hF, h2, e34, e63, ↓ZD, ZU, ne_eq, Zaa, Zab, false_implies, Zac, Zad, Zae, Zaf, Zag, Zah, Zai, Zaj, Zak, Zal, Zam, Zan, Zao, Zap, Zaq, Zar, Zas, Zat, Zau, Zav, Zaw, Zax, Zay, Zaz, Za0, Za1, Za2, Za3, Za4, Za5, Za6, Za7, Za8, Za9, Zba, Zbb, Zbc, Zbd, Zbe, Zbf, Zbg, Zbh, Zbi, Zbj, Zbk, Zbl, Zbm, Zbn, Zbo, Zbp, Zbq, Zbr, Zbs, Zbt, Zbu, Zbv, Zbw, Zbx, Zby, Zbz, Zb0, Zb1, Zb2, decide_true, decide_false, Zb3, Zb4, Zb5, Zb6, Zb7, Zb8, Zb9, Zca, Zcb, Zcc, Zcd, beq_self_eq_true, cond_true, cond_false, if_false, if_true, reduceIte, reduceCtorEq, not_true_eq_false, not_false_eq_true, true_and, and_true, forall_const, false_and, and_false, implies_true, Zce, Zcf, Zcg, Zch, Zci]
      refine CallE.pure hn ?_
      simp (disch := omega) only [hF, ↓ZD, ZU, ne_eq, Zaa, Zab, false_implies, Zac, Zad, Zae, Zaf, Zag, Zah, Zai, Zaj, Zak, Zal, Zam, Zan, Zao, Zap, Zaq, Zar, Zas, Zat, Zau, Zav, Zaw, Zax, Zay, Zaz, Za0, Za1, Za2, Za3, Za4, Za5, Za6, Za7, Za8, Za9, Zba, Zbb, Zbc, Zbd, Zbe, Zbf, Zbg, Zbh, Zbi, Zbj, Zbk, Zbl, Zbm, Zbn, Zbo, Zbp, Zbq, Zbr, Zbs, Zbt, Zbu, Zbv, Zbw, Zbx, Zby, Zbz, Zb0, Zb1, Zb2, decide_true, decide_false, Zb3, Zb4, Zb5, Zb6, Zb7, Zb8, Zb9, Zca, Zcb, Zcc, Zcd, beq_self_eq_true, cond_true, cond_false, if_false, if_true, reduceIte, reduceCtorEq, not_true_eq_false, not_false_eq_true, true_and, and_true, forall_const, false_and, and_false, implies_true, Zce, Zcf, Zcg, Zch, Zci]
      refine ⟨fun _ => rfl, fun h => ?_⟩
      exfalso
      simp at h
    · rw [if_neg he]
      refine ⟨4, nameX r, 0, i, i + 1 + (nameX r).length, 0, ?_, ?_⟩
      · refine pureV_of_svc mixed Tryd.func15 low15 (Nat.le_of_ble_eq_true rfl) (fun w0 => ?_)
        simp (disch := omega) only [fu15, ↓ZD, ZU, ne_eq, Zaa, Zab, false_implies, Zac, Zad, Zae, Zaf, Zag, Zah, Zai, Zaj, Zak, Zal, Zam, Zan, Zao, Zap, Zaq, Zar, Zas, Zat, Zau, Zav, Zaw, Zax, Zay, Zaz, Za0, Za1, Za2, Za3, Za4, Za5, Za6, Za7, Za8, Za9, Zba, Zbb, Zbc, Zbd, Zbe, Zbf, Zbg, Zbh, Zbi, Zbj, Zbk, Zbl, Zbm, Zbn, Zbo, Zbp, Zbq, Zbr, Zbs, Zbt, Zbu, Zbv, Zbw, Zbx, Zby, Zbz, Zb0, Zb1, Zb2, decide_true, decide_false, Zb3, Zb4, Zb5, Zb6, Zb7, Zb8, Zb9, Zca, Zcb, Zcc, Zcd, beq_self_eq_true, cond_true, cond_false, if_false, if_true, reduceIte, reduceCtorEq, not_true_eq_false, not_false_eq_true, true_and, and_true, forall_const, false_and, and_false, implies_true, Zce, Zcf, Zcg, Zch, Zci]
        refine NewB.of fun b hb hF => ?_
        simp (disch := omega) only [hF, ↓ZD, ZU, ne_eq, Zaa, Zab, false_implies, Zac, Zad, Zae, Zaf, Zag, Zah, Zai, Zaj, Zak, Zal, Zam, Zan, Zao, Zap, Zaq, Zar, Zas, Zat, Zau, Zav, Zaw, Zax, Zay, Zaz, Za0, Za1, Za2, Za3, Za4, Za5, Za6, Za7, Za8, Za9, Zba, Zbb, Zbc, Zbd, Zbe, Zbf, Zbg, Zbh, Zbi, Zbj, Zbk, Zbl, Zbm, Zbn, Zbo, Zbp, Zbq, Zbr, Zbs, Zbt, Zbu, Zbv, Zbw, Zbx, Zby, Zbz, Zb0, Zb1, Zb2, decide_true, decide_false, Zb3, Zb4, Zb5, Zb6, Zb7, Zb8, Zb9, Zca, Zcb, Zcc, Zcd, beq_self_eq_true, cond_true, cond_false, if_false, if_true, reduceIte, reduceCtorEq, not_true_eq_false, not_false_eq_true, true_and, and_true, forall_const, false_and, and_false, implies_true, Zce, Zcf, Zcg, Zch, Zci]
        refine conj.of (by omega) ?_
        simp (disch := omega) only [hF, Int.toNat_natCast, hc, ↓ZD, ZU, ne_eq, Zaa, Zab, false_implies, Zac, Zad, Zae, Zaf, Zag, Zah, Zai, Zaj, Zak, Zal, Zam, Zan, Zao, Zap, Zaq, Zar, Zas, Zat, Zau, Zav, Zaw, Zax, Zay, Zaz, Za0, Za1, Za2, Za3, Za4, Za5, Za6, Za7, Za8, Za9, Zba, Zbb, Zbc, Zbd, Zbe, Zbf, Zbg, Zbh, Zbi, Zbj, Zbk, Zbl, Zbm, Zbn, Zbo, Zbp, Zbq, Zbr, Zbs, Zbt, Zbu, Zbv, Zbw, Zbx, Zby, Zbz, Zb0, Zb1, Zb2, decide_true, decide_false, Zb3, Zb4, Zb5, Zb6, Zb7, Zb8, Zb9, Zca, Zcb, Zcc, Zcd, beq_self_eq_true, cond_true, cond_false, if_false, if_true, reduceIte, reduceCtorEq, not_true_eq_false, not_false_eq_true, true_and, and_true, forall_const, false_and, and_false, implies_true, Zce, Zcf, Zcg, Zch, Zci]
        refine CallE.pure (rletter_pure F c) ?_
        simp (disch := omega) only [hF, ↓ZD, ZU, ne_eq, Zaa, Zab, false_implies, Zac, Zad, Zae, Zaf, Zag, Zah, Zai, Zaj, Zak, Zal, Zam, Zan, Zao, Zap, Zaq, Zar, Zas, Zat, Zau, Zav, Zaw, Zax, Zay, Zaz, Za0, Za1, Za2, Za3, Za4, Za5, Za6, Za7, Za8, Za9, Zba, Zbb, Zbc, Zbd, Zbe, Zbf, Zbg, Zbh, Zbi, Zbj, Zbk, Zbl, Zbm, Zbn, Zbo, Zbp, Zbq, Zbr, Zbs, Zbt, Zbu, Zbv, Zbw, Zbx, Zby, Zbz, Zb0, Zb1, Zb2, decide_true, decide_false, Zb3, Zb4, Zb5, Zb6, Zb7, Zb8, Zb9, Zca, Zcb, Zcc, Zcd, beq_self_eq_true, cond_true, cond_false, if_false, if_true, reduceIte, reduceCtorEq, not_true_eq_false, not_false_eq_true, true_and, and_true, forall_const, false_and, and_false, implies_true, Zce, Zcf, Zcg, Zch, Zci]
        refine ⟨fun h => (by rw [h1] at h; cases h), fun _ => ?_⟩
        refine CallE.pure (rdigit_pure F c) ?_
        simp (disch := omega) only [hF, h2, e34, e63, ↓ZD, ZU, ne_eq, Zaa, Zab, false_implies, Zac, Zad, Zae, Zaf, Zag, Zah, Zai, Zaj, Zak, Zal, Zam, Zan, Zao, Zap, Zaq, Zar, Zas, Zat, Zau, Zav, Zaw, Zax, Zay, Zaz, Za0, Za1, Za2, Za3, Za4, Za5, Za6, Za7, Za8, Za9, Zba, Zbb, Zbc, Zbd, Zbe, Zbf, Zbg, Zbh, Zbi, Zbj, Zbk, Zbl, Zbm, Zbn, Zbo, Zbp, Zbq, Zbr, Zbs, Zbt, Zbu, Zbv, Zbw, Zbx, Zby, Zbz, Zb0, Zb1, Zb2, decide_true, decide_false, Zb3, Zb4, Zb5, Zb6, Zb7, Zb8, Zb9, Zca, Zcb, Zcc, Zcd, beq_self_eq_true, cond_true, cond_false, if_false, if_true, reduceIte, reduceCtorEq, not_true_eq_false, not_false_eq_true, true_and, and_true, forall_const, false_and, and_false, implies_true, Zce, Zcf, Zcg, Zch, Zci]
        refine CallE.pure hn ?_
        simp (disch := omega) only [hF, ↓ZD, ZU, ne_eq, Zaa, Zab, false_implies, Zac, Zad, Zae, Zaf, Zag, Zah, Zai, Zaj, Zak, Zal, Zam, Zan, Zao, Zap, Zaq, Zar, Zas, Zat, Zau, Zav, Zaw, Zax, Zay, Zaz, Za0, Za1, Za2, Za3, Za4, Za5, Za6, Za7, Za8, Za9, Zba, Zbb, Zbc, Zbd, Zbe, Zbf, Zbg, Zbh, Zbi, Zbj, Zbk, Zbl, Zbm, Zbn, Zbo, Zbp, Zbq, Zbr, Zbs, Zbt, Zbu, Zbv, Zbw, Zbx, Zby, Zbz, Zb0, Zb1, Zb2, decide_true, decide_false, Zb3, Zb4, Zb5, Zb6, Zb7, Zb8, Zb9, Zca, Zcb, Zcc, Zcd, beq_self_eq_true, cond_true, cond_false, if_false, if_true, reduceIte, reduceCtorEq, not_true_eq_false, not_false_eq_true, true_and, and_true, forall_const, false_and, and_false, implies_true, Zce, Zcf, Zcg, Zch, Zci]
        have hnl : (nameX r).length ≠ 0 := fun h => he (List.eq_nil_of_length_eq_zero h)
        refine ⟨fun h => ?_, fun _ => ?_⟩
        · have : ((i + 1 + (nameX r).length : Nat) : Int) = (i : Int) + 1 := by simpa using h
          omega
        refine conj.of (by omega) ?_
        simp (disch := omega) only [hF, Int.toNat_natCast, hi1, slice_eq, hdr, nameX_take, ↓ZD, ZU, ne_eq, Zaa, Zab, false_implies, Zac, Zad, Zae, Zaf, Zag, Zah, Zai, Zaj, Zak, Zal, Zam, Zan, Zao, Zap, Zaq, Zar, Zas, Zat, Zau, Zav, Zaw, Zax, Zay, Zaz, Za0, Za1, Za2, Za3, Za4, Za5, Za6, Za7, Za8, Za9, Zba, Zbb, Zbc, Zbd, Zbe, Zbf, Zbg, Zbh, Zbi, Zbj, Zbk, Zbl, Zbm, Zbn, Zbo, Zbp, Zbq, Zbr, Zbs, Zbt, Zbu, Zbv, Zbw, Zbx, Zby, Zbz, Zb0, Zb1, Zb2, decide_true, decide_false, Zb3, Zb4, Zb5, Zb6, Zb7, Zb8, Zb9, Zca, Zcb, Zcc, Zcd, beq_self_eq_true, cond_true, cond_false, if_false, if_true, reduceIte, reduceCtorEq, not_true_eq_false, not_false_eq_true, true_and, and_true, forall_const, false_and, and_false, implies_true, Zce, Zcf, Zcg, Zch, Zci]
        rfl
      · rw [if_neg (by simp), if_neg (by simp)]
        exact ⟨rfl, by show i + 1 + (nameX r).length = i + ((nameX r).length + 1); omega, rfl, rfl⟩
  have e63 : ((c.toNat : Int) == 63) = false := by
    rw [Bool.eq_false_iff]; intro h; exact h4 (eqC h)
  have hx := oneX_mark (s := c :: r) h1 h2 h3 h4
  have hm := rmark_pure F s i h0 hs
  have hmt := mX_take c r
  rw [hcr] at hm
  have hml : (mX (c :: r)).length ≤ r.length + 1 := by rw [← hmt, List.length_take]; simp only [List.length_cons]; omega
  rw [hx]
  by_cases he : mX (c :: r) = []
  · rw [if_pos he]
    rw [he] at hm
    refine ⟨0, [], 0, 0, i, 10, ?_, ⟨rfl, by decide⟩⟩
    refine pureV_of_svc mixed Tryd.func15 low15 (Nat.le_of_ble_eq_true rfl) (fun w0 => ?_)
    simp (disch := omega) only [fu15, ↓ZD, ZU, ne_eq, Zaa, Zab, false_implies, Zac, Zad, Zae, Zaf, Zag, Zah, Zai, Zaj, Zak, Zal, Zam, Zan, Zao, Zap, Zaq, Zar, Zas, Zat, Zau, Zav, Zaw, Zax, Zay, Zaz, Za0, Za1, Za2, Za3, Za4, Za5, Za6, Za7, Za8, Za9, Zba, Zbb, Zbc, Zbd, Zbe, Zbf, Zbg, Zbh, Zbi, Zbj, Zbk, Zbl, Zbm, Zbn, Zbo, Zbp, Zbq, Zbr, Zbs, Zbt, Zbu, Zbv, Zbw, Zbx, Zby, Zbz, Zb0, Zb1, Zb2, decide_true, decide_false, Zb3, Zb4, Zb5, Zb6, Zb7, Zb8, Zb9, Zca, Zcb, Zcc, Zcd, beq_self_eq_true, cond_true, cond_false, if_false, if_true, reduceIte, reduceCtorEq, not_true_eq_false, not_false_eq_true, true_and, and_true, forall_const, false_and, and_false, implies_true, Zce, Zcf, Zcg, Zch, Zci]
    refine NewB.of fun b hb hF => ?_
    simp (disch := omega) only [hF, ↓ZD, ZU, ne_eq, Zaa, Zab, false_implies, Zac, Zad, Zae, Zaf, Zag, Zah, Zai, Zaj, Zak, Zal, Zam, Zan, Zao, Zap, Zaq, Zar, Zas, Zat, Zau, Zav, Zaw, Zax, Zay, Zaz, Za0, Za1, Za2, Za3, Za4, Za5, Za6, Za7, Za8, Za9, Zba, Zbb, Zbc, Zbd, Zbe, Zbf, Zbg, Zbh, Zbi, Zbj, Zbk, Zbl, Zbm, Zbn, Zbo, Zbp, Zbq, Zbr, Zbs, Zbt, Zbu, Zbv, Zbw, Zbx, Zby, Zbz, Zb0, Zb1, Zb2, decide_true, decide_false, Zb3, Zb4, Zb5, Zb6, Zb7, Zb8, Zb9, Zca, Zcb, Zcc, Zcd, beq_self_eq_true, cond_true, cond_false, if_false, if_true, reduceIte, reduceCtorEq, not_true_eq_false, not_false_eq_true, true_and, and_true, forall_const, false_and, and_false, implies_true, Zce, Zcf, Zcg, Zch, Zci]
    refine conj.of (by omega) ?_
    simp (disch := omega) only [hF, Int.toNat_natCast, hc, ↓ZD, ZU, ne_eq, Zaa, Zab, false_implies, Zac, Zad, Zae, Zaf, Zag, Zah, Zai, Zaj, Zak, Zal, Zam, Zan, Zao, Zap, Zaq, Zar, Zas, Zat, Zau, Zav, Zaw, Zax, Zay, Zaz, Za0, Za1, Za2, Za3, Za4, Za5, Za6, Za7, Za8, Za9, Zba, Zbb, Zbc, Zbd, Zbe, Zbf, Zbg, Zbh, Zbi, Zbj, Zbk, Zbl, Zbm, Zbn, Zbo, Zbp, Zbq, Zbr, Zbs, Zbt, Zbu, Zbv, Zbw, Zbx, Zby, Zbz, Zb0, Zb1, Zb2, decide_true, decide_false, Zb3, Zb4, Zb5, Zb6, Zb7, Zb8, Zb9, Zca, Zcb, Zcc, Zcd, beq_self_eq_true, cond_true, cond_false, if_false, if_true, reduceIte, reduceCtorEq, not_true_eq_false, not_false_eq_true, true_and, and_true, forall_const, false_and, and_false, implies_true, Zce, Zcf, Zcg, Zch, Zci]
    refine CallE.pure (rletter_pure F c) ?_
    simp (disch := omega) only [hF, ↓ZD, ZU, ne_eq, Zaa, Zab, false_implies, Zac, Zad, Zae, Zaf, Zag, Zah, Zai, Zaj, Zak, Zal, Zam, Zan, Zao, Zap, Zaq, Zar, Zas, Zat, Zau, Zav, Zaw, Zax, Zay, Zaz, Za0, Za1, Za2, Za3, Za4, Za5, Za6, Za7, Za8, Za9, Zba, Zbb, Zbc, Zbd, Zbe, Zbf, Zbg, Zbh, Zbi, Zbj, Zbk, Zbl, Zbm, Zbn, Zbo, Zbp, Zbq, Zbr, Zbs, Zbt, Zbu, Zbv, Zbw, Zbx, Zby, Zbz, Zb0, Zb1, Zb2, decide_true, decide_false, Zb3, Zb4, Zb5, Zb6, Zb7, Zb8, Zb9, Zca, Zcb, Zcc, Zcd, beq_self_eq_true, cond_true, cond_false, if_false, if_true, reduceIte, reduceCtorEq, not_true_eq_false, not_false_eq_true, true_and, and_true, forall_const, false_and, and_false, implies_true, Zce, Zcf, Zcg, Zch, Zci]
    refine ⟨fun h => (by rw [h1] at h; cases h), fun _ => ?_⟩
    refine CallE.pure (rdigit_pure F c) ?_
    simp (disch := omega) only [hF, h2, e34, e63, ↓ZD, ZU, ne_eq, Zaa, Zab, false_implies, Zac, Zad, Zae, Zaf, Zag, Zah, Zai, Zaj, Zak, Zal, Zam, Zan, Zao, Zap, Zaq, Zar, Zas, Zat, Zau, Zav, Zaw, Zax, Zay, Zaz, Za0, Za1, Za2, Za3, Za4, Za5, Za6, Za7, Za8, Za9, Zba, Zbb, Zbc, Zbd, Zbe, Zbf, Zbg, Zbh, Zbi, Zbj, Zbk, Zbl, Zbm, Zbn, Zbo, Zbp, Zbq, Zbr, Zbs, Zbt, Zbu, Zbv, Zbw, Zbx, Zby, Zbz, Zb0, Zb1, Zb2, decide_true, decide_false, Zb3, Zb4, Zb5, Zb6, Zb7, Zb8, Zb9, Zca, Zcb, Zcc, Zcd, beq_self_eq_true, cond_true, cond_false, if_false, if_true, reduceIte, reduceCtorEq, not_true_eq_false, not_false_eq_true, true_and, and_true, forall_const, false_and, and_false, implies_true, Zce, Zcf, Zcg, Zch, Zci]
    refine CallE.pure hm ?_
    simp (disch := omega) only [hF, ↓ZD, ZU, ne_eq, Zaa, Zab, false_implies, Zac, Zad, Zae, Zaf, Zag, Zah, Zai, Zaj, Zak, Zal, Zam, Zan, Zao, Zap, Zaq, Zar, Zas, Zat, Zau, Zav, Zaw, Zax, Zay, Zaz, Za0, Za1, Za2, Za3, Za4, Za5, Za6, Za7, Za8, Za9, Zba, Zbb, Zbc, Zbd, Zbe, Zbf, Zbg, Zbh, Zbi, Zbj, Zbk, Zbl, Zbm, Zbn, Zbo, Zbp, Zbq, Zbr, Zbs, Zbt, Zbu, Zbv, Zbw, Zbx, Zby, Zbz, Zb0, Zb1, Zb2, decide_true, decide_false, Zb3, Zb4, Zb5, Zb6, Zb7, Zb8, Zb9, Zca, Zcb, Zcc, Zcd, beq_self_eq_true, cond_true, cond_false, if_false, if_true, reduceIte, reduceCtorEq, not_true_eq_false, not_false_eq_true, true_and, and_true, forall_const, false_and, and_false, implies_true, Zce, Zcf, Zcg, Zch, Zci]
    rfl
  · rw [if_neg he]
    refine ⟨5, mX (c :: r), 0, i, i + (mX (c :: r)).length, 0, ?_, ?_⟩
    · refine pureV_of_svc mixed Tryd.func15 low15 (Nat.le_of_ble_eq_true rfl) (fun w0 => ?_)
      simp (disch := omega) only [fu15, ↓ZD, ZU, ne_eq, Zaa, Zab, false_implies, Zac, Zad, Zae, Zaf, Zag, Zah, Zai, Zaj, Zak, Zal, Zam, Zan, Zao, Zap, Zaq, Zar, Zas, Zat, Zau, Zav, Zaw, Zax, Zay, Zaz, Za0, Za1, Za2, Za3, Za4, Za5, Za6, Za7, Za8, Za9, Zba, Zbb, Zbc, Zbd, Zbe, Zbf, Zbg, Zbh, Zbi, Zbj, Zbk, Zbl, Zbm, Zbn, Zbo, Zbp, Zbq, Zbr, Zbs, Zbt, Zbu, Zbv, Zbw, Zbx, Zby, Zbz, Zb0, Zb1, Zb2, decide_true, decide_false, Zb3, Zb4, Zb5, Zb6, Zb7, Zb8, Zb9, Zca, Zcb, Zcc, Zcd, beq_self_eq_true, cond_true, cond_false, if_false, if_true, reduceIte, reduceCtorEq, not_true_eq_false, not_false_eq_true, true_and, and_true, forall_const, false_and, and_false, implies_true, Zce, Zcf, Zcg, Zch, Zci]
      refine NewB.of fun b hb hF => ?_
      simp (disch := omega) only [hF, ↓ZD, ZU, ne_eq, Zaa, Zab, false_implies, Zac, Zad, Zae, Zaf, Zag, Zah, Zai, Zaj, Zak, Zal, Zam, Zan, Zao, Zap, Zaq, Zar, Zas, Zat, Zau, Zav, Zaw, Zax, Zay, Zaz, Za0, Za1, Za2, Za3, Za4, Za5, Za6, Za7, Za8, Za9, Zba, Zbb, Zbc, Zbd, Zbe, Zbf, Zbg, Zbh, Zbi, Zbj, Zbk, Zbl, Zbm, Zbn, Zbo, Zbp, Zbq, Zbr, Zbs, Zbt, Zbu, Zbv, Zbw, Zbx, Zby, Zbz, Zb0, Zb1, Zb2, decide_true, decide_false, Zb3, Zb4, Zb5, Zb6, Zb7, Zb8, Zb9, Zca, Zcb, Zcc, Zcd, beq_self_eq_true, cond_true, cond_false, if_false, if_true, reduceIte, reduceCtorEq, not_true_eq_false, not_false_eq_true, true_and, and_true, forall_const, false_and, and_false, implies_true, Zce, Zcf, Zcg, Zch, Zci]
      refine conj.of (by omega) ?_
      simp (disch := omega) only [hF, Int.toNat_natCast, hc, ↓ZD, ZU, ne_eq, Zaa, Zab, false_implies, Zac, Zad, Zae, Zaf, Zag, Zah, Zai, Zaj, Zak, Zal, Zam, Zan, Zao, Zap, Zaq, Zar, Zas, Zat, Zau, Zav, Zaw, Zax, Zay, Zaz, Za0, Za1, Za2, Za3, Za4, Za5, Za6, Za7, Za8, Za9, Zba, Zbb, Zbc, Zbd, Zbe, Zbf, Zbg, Zbh, Zbi, Zbj, Zbk, Zbl, Zbm, Zbn, Zbo, Zbp, Zbq, Zbr, Zbs, Zbt, Zbu, Zbv, Zbw, Zbx, Zby, Zbz, Zb0, Zb1, Zb2, decide_true, decide_false, Zb3, Zb4, Zb5, Zb6, Zb7, Zb8, Zb9, Zca, Zcb, Zcc, Zcd, beq_self_eq_true, cond_true, cond_false, if_false, if_true, reduceIte, reduceCtorEq, not_true_eq_false, not_false_eq_true, true_and, and_true, forall_const, false_and, and_false, implies_true, Zce, Zcf, Zcg, Zch, Zci]
      refine CallE.pure (rletter_pure F c) ?_
      simp (disch := omega) only [hF, ↓ZD, ZU, ne_eq, Zaa, Zab, false_implies, Zac, Zad, Zae, Zaf, Zag, Zah, Zai, Zaj, Zak, Zal, Zam, Zan, Zao, Zap, Zaq, Zar, Zas, Zat, Zau, Zav, Zaw, Zax, Zay, Zaz, Za0, Za1, Za2, Za3, Za4, Za5, Za6, Za7, Za8, Za9, Zba, Zbb, Zbc, Zbd, Zbe, Zbf, Zbg, Zbh, Zbi, Zbj, Zbk, Zbl, Zbm, Zbn, Zbo, Zbp, Zbq, Zbr, Zbs, Zbt, Zbu, Zbv, Zbw, Zbx, Zby, Zbz, Zb0, Zb1, Zb2, decide_true, decide_false, Zb3, Zb4, Zb5, Zb6, Zb7, Zb8, Zb9, Zca, Zcb, Zcc, Zcd, beq_self_eq_true, cond_true, cond_false, if_false, if_true, reduceIte, reduceCtorEq, not_true_eq_false, not_false_eq_true, true_and, and_true, forall_const, false_and, and_false, implies_true, Zce, Zcf, Zcg, Zch, Zci]
      refine ⟨fun h => (by rw [h1] at h; cases h), fun _ => ?_⟩
      refine CallE.pure (rdigit_pure F c) ?_
      simp (disch := omega) only [hF, h2, e34, e63, ↓ZD, ZU, ne_eq, Zaa, Zab, false_implies, Zac, Zad, Zae, Zaf, Zag, Zah, Zai, Zaj, Zak, Zal, Zam, Zan, Zao, Zap, Zaq, Zar, Zas, Zat, Zau, Zav, Zaw, Zax, Zay, Zaz, Za0, Za1, Za2, Za3, Za4, Za5, Za6, Za7, Za8, Za9, Zba, Zbb, Zbc, Zbd, Zbe, Zbf, Zbg, Zbh, Zbi, Zbj, Zbk, Zbl, Zbm, Zbn, Zbo, Zbp, Zbq, Zbr, Zbs, Zbt, Zbu, Zbv, Zbw, Zbx, Zby, Zbz, Zb0, Zb1, Zb2, decide_true, decide_false, Zb3, Zb4, Zb5, Zb6, Zb7, Zb8, Zb9, Zca, Zcb, Zcc, Zcd, beq_self_eq_true, cond_true, cond_false, if_false, if_true, reduceIte, reduceCtorEq, not_true_eq_false, not_false_eq_true, true_and, and_true, forall_const, false_and, and_false, implies_true, Zce, Zcf, Zcg, Zch, Zci]
      refine CallE.pure hm ?_
      simp (disch := omega) only [hF, ↓ZD, ZU, ne_eq, Zaa, Zab, false_implies, Zac, Zad, Zae, Zaf, Zag, Zah, Zai, Zaj, Zak, Zal, Zam, Zan, Zao, Zap, Zaq, Zar, Zas, Zat, Zau, Zav, Zaw, Zax, Zay, Zaz, Za0, Za1, Za2, Za3, Za4, Za5, Za6, Za7, Za8, Za9, Zba, Zbb, Zbc, Zbd, Zbe, Zbf, Zbg, Zbh, Zbi, Zbj, Zbk, Zbl, Zbm, Zbn, Zbo, Zbp, Zbq, Zbr, Zbs, Zbt, Zbu, Zbv, Zbw, Zbx, Zby, Zbz, Zb0, Zb1, Zb2, decide_true, decide_false, Zb3, Zb4, Zb5, Zb6, Zb7, Zb8, Zb9, Zca, Zcb, Zcc, Zcd, beq_self_eq_true, cond_true, cond_false, if_false, if_true, reduceIte, reduceCtorEq, not_true_eq_false, not_false_eq_true, true_and, and_true, forall_const, false_and, and_false, implies_true, Zce, Zcf, Zcg, Zch, Zci]
      have hnl : (mX (c :: r)).length ≠ 0 := fun h => he (List.eq_nil_of_length_eq_zero h)
      refine ⟨fun h => ?_, fun _ => ?_⟩
      · have : ((i + (mX (c :: r)).length : Nat) : Int) = (i : Int) := by simpa using h
        omega
      refine conj.of (by omega) ?_
      simp (disch := omega) only [hF, Int.toNat_natCast, slice_eq, hcr, hmt, ↓ZD, ZU, ne_eq, Zaa, Zab, false_implies, Zac, Zad, Zae, Zaf, Zag, Zah, Zai, Zaj, Zak, Zal, Zam, Zan, Zao, Zap, Zaq, Zar, Zas, Zat, Zau, Zav, Zaw, Zax, Zay, Zaz, Za0, Za1, Za2, Za3, Za4, Za5, Za6, Za7, Za8, Za9, Zba, Zbb, Zbc, Zbd, Zbe, Zbf, Zbg, Zbh, Zbi, Zbj, Zbk, Zbl, Zbm, Zbn, Zbo, Zbp, Zbq, Zbr, Zbs, Zbt, Zbu, Zbv, Zbw, Zbx, Zby, Zbz, Zb0, Zb1, Zb2, decide_true, decide_false, Zb3, Zb4, Zb5, Zb6, Zb7, Zb8, Zb9, Zca, Zcb, Zcc, Zcd, beq_self_eq_true, cond_true, cond_false, if_false, if_true, reduceIte, reduceCtorEq, not_true_eq_false, not_false_eq_true, true_and, and_true, forall_const, false_and, and_false, implies_true, Zce, Zcf, Zcg, Zch, Zci]
      rfl
    · have : (mX (c :: r)).length ≠ 0 := fun h => he (List.eq_nil_of_length_eq_zero h)
      rw [if_neg (by simp), if_neg this]
      exact ⟨rfl, rfl, rfl, rfl⟩
end Go.Proofs.YtndnpmlhofijjaaDoor
