/- Layer 1: the number of digits, of the reference. -/
import Derived.Test.YtndnpmlhofijjaaDoorInE
namespace Go.Proofs.YtndnpmlhofijjaaDoor
open Go Go.Eng
open Int renaming reduceEq → Zaa, cast_ofNat_Int → Zac, reduceToNat → Zbu, toNat_zero → Zbv, toNat_one → Zbw, reduceLE → Zbx, reduceLT → Zby, reduceAdd → Zbz, reduceSub → Zb0, reduceNeg → Zb1, zero_add → Zb2, reducePow → Zcg, reduceNegSucc → Zci
open UInt8 renaming reduceOfNat → Zab
open List renaming toList_toArray → Zad, length_append → Zag, cons_append → Zav, nil_append → Zaw, length_cons → Zax, length_nil → Zay, drop_zero → Zaz, drop_succ_cons → Za0, take_succ_cons → Za1, take_zero → Za2, drop_nil → Za3, take_nil → Za4, append_nil → Za5, all_cons → Za6, all_nil → Za7, isEmpty_cons → Za8, size_toArray → Za9, getElem?_toArray → Zba, getElem?_cons_zero → Zbb, getElem?_cons_succ → Zbc, getD_cons_zero → Zbd, getD_cons_succ → Zbe, mapM_cons → Zbf, mapM_nil → Zbg
open Option renaming getD_some → Zae, getD_none → Zaf, map_some → Zar, map_none → Zas, bind_some → Zat, bind_none → Zau
open Nat renaming le_add_right → Zah, reduceAdd → Zbi, reduceMul → Zbj, reduceMod → Zbk, reduceDiv → Zbl, reduceEqDiff → Zbm, reduceBEq → Zbn, reduceLeDiff → Zbo, reduceSub → Zbp, zero_add → Zbq, add_zero → Zbr, le_refl → Zbs, zero_le → Zbt, reducePow → Zcf, reduceLT → Zch
open Go.Eng renaming subG → Zai, lit → Zaj, isPar → Zak, numb → Zal, Wf → Zam, resV → Zan, oneCell → Zao, isB → Zap, asB → Zaq
open Go.Value renaming cells → Zbh
open Bool renaming and_true → Zb3, true_and → Zb4, and_self → Zb5, not_true → Zb6, not_false → Zb7, and_false → Zb8, or_false → Zb9, or_true → Zca, true_or → Zcb, false_or → Zcc, false_and → Zcd, false_eq_true → Zce
set_option linter.unusedSimpArgs false
set_option linter.unusedVariables false
set_option maxRecDepth 20000

/-- What holds at the head of the reference's loop. -/
def rreadI (f : Nat) (l : List UInt8) (x : Nat × Bool × Int × Int) : Prop :=
  f ≤ x.1 ∧ x.1 ≤ f + l.length ∧ Dg x.2.2.1 ∧ Dg x.2.2.2 ∧ (l.take (x.1 - f)).all isD = true ∧
    (if x.2.1 = true then 18446744073709551616 ≤ nval (l.take (x.1 - f)) else val 0 0 x.2.2.1 x.2.2.2 = nval (l.take (x.1 - f)))
theorem rread_pure (F : Base) (m : Bool) (l : List UInt8) (hm : m = false → l.head? ≠ some 45) (hl : l.length ≤ 1000000000) : PureV Tryd.prog F 29 #[.string (bs (if m then 45 :: l else l))] (pr (readD m l)) := by
  obtain ⟨s, hs⟩ : ∃ s, s = if m then 45 :: l else l := ⟨_, rfl⟩
  obtain ⟨f, hf⟩ : ∃ f : Nat, f = if m then 1 else 0 := ⟨_, rfl⟩
  have hf1 : f ≤ 1 := by rw [hf]; split <;> omega
  have hsl : s.length = f + l.length := by rw [hs, hf]; split <;> simp; omega
  have hsd : ∀ i, s.getD (f + i) 0 = l.getD i 0 := by
    intro i; rw [hs, hf]; split
    · rw [Nat.add_comm]; rfl
    · rw [Nat.zero_add]
  have hc0 : (decide ((0 : Int) < s.length) && ((s.getD 0 0).toNat : Int) == 45) = m := by
    rw [hs]
    cases m with
    | true => simp
    | false =>
      have := hm rfl
      cases l with
      | nil => simp
      | cons c l =>
        simp at this ⊢
        intro h; apply this; apply UInt8.toNat_inj.mp; simp; omega
  rw [← hs]
  refine pureV_of_svc mixed Tryd.func29 low29 (Nat.le_of_ble_eq_true rfl) (fun w0 => ?_)
  simp (disch := omega) only [fu29, hc0, ↓ZD, ZU, ne_eq, Zaa, Zab, false_implies, Zac, Zad, Zae, Zaf, Zag, Zah, Zai, Zaj, Zak, Zal, Zam, Zan, Zao, Zap, Zaq, Zar, Zas, Zat, Zau, Zav, Zaw, Zax, Zay, Zaz, Za0, Za1, Za2, Za3, Za4, Za5, Za6, Za7, Za8, Za9, Zba, Zbb, Zbc, Zbd, Zbe, Zbf, Zbg, Zbh, Zbi, Zbj, Zbk, Zbl, Zbm, Zbn, Zbo, Zbp, Zbq, Zbr, Zbs, Zbt, Zbu, Zbv, Zbw, Zbx, Zby, Zbz, Zb0, Zb1, Zb2, decide_true, decide_false, Zb3, Zb4, Zb5, Zb6, Zb7, Zb8, Zb9, Zca, Zcb, Zcc, Zcd, beq_self_eq_true, cond_true, cond_false, if_false, if_true, reduceIte, reduceCtorEq, not_true_eq_false, not_false_eq_true, true_and, and_true, forall_const, false_and, and_false, implies_true, Zce, Zcf, Zcg, Zch, Zci]
  refine conj.of (by simp) ?_
  simp (disch := omega) only [hc0, ↓ZD, ZU, ne_eq, Zaa, Zab, false_implies, Zac, Zad, Zae, Zaf, Zag, Zah, Zai, Zaj, Zak, Zal, Zam, Zan, Zao, Zap, Zaq, Zar, Zas, Zat, Zau, Zav, Zaw, Zax, Zay, Zaz, Za0, Za1, Za2, Za3, Za4, Za5, Za6, Za7, Za8, Za9, Zba, Zbb, Zbc, Zbd, Zbe, Zbf, Zbg, Zbh, Zbi, Zbj, Zbk, Zbl, Zbm, Zbn, Zbo, Zbp, Zbq, Zbr, Zbs, Zbt, Zbu, Zbv, Zbw, Zbx, Zby, Zbz, Zb0, Zb1, Zb2, decide_true, decide_false, Zb3, Zb4, Zb5, Zb6, Zb7, Zb8, Zb9, Zca, Zcb, Zcc, Zcd, beq_self_eq_true, cond_true, cond_false, if_false, if_true, reduceIte, reduceCtorEq, not_true_eq_false, not_false_eq_true, true_and, and_true, forall_const, false_and, and_false, implies_true, Zce, Zcf, Zcg, Zch, Zci]
  have key : ∀ fi : Int, fi = (f : Int) → ((((fi == (s.length : Int)) || ((s.getD fi.toNat 0).toNat : Int) == 48 && decide (1 < (s.length : Int))) = true ↔ (l = [] ∨ (l.getD 0 0 = 48 ∧ (1 < l.length ∨ m = true))))) := by
    rintro fi rfl
    have := hsd 0
    rw [Nat.add_zero] at this
    rw [Int.toNat_natCast, this]
    have e48 : (((l.getD 0 0).toNat : Int) == 48) = decide (l.getD 0 0 = 48) := by
      apply Bool.eq_iff_iff.mpr; rw [beq_iff_eq, decide_eq_true_eq, ← UInt8.toNat_inj]; show _ ↔ _ = 48; omega
    rw [e48]
    simp only [Bool.or_eq_true, Bool.and_eq_true, beq_iff_eq, decide_eq_true_eq]
    have e0 : ((f : Int) = s.length) ↔ l = [] := by rw [← List.length_eq_zero_iff]; omega
    rw [e0]
    cases l with
    | nil => simp
    | cons c l =>
      simp only [List.length_cons] at hsl ⊢
      have e1 : ((1 : Int) < s.length) ↔ (1 < l.length + 1 ∨ m = true) := by
        rw [hsl, hf]; cases m <;> simp <;> omega
      rw [e1]
  have fin0 : ∀ fi : Int, fi = (f : Int) → ((fi == (s.length : Int)) || ((s.getD fi.toNat 0).toNat : Int) == 48 && decide (1 < (s.length : Int))) = true → Value.tuple #[Value.int IntKind.i64 0, Value.int IntKind.i64 10] = pr (readD m l) := by
    intro fi hfi h
    have := (key fi hfi).mp h
    unfold readD
    rw [if_pos (by rcases this with h | h; exact .inl h; exact .inr (.inl h))]; rfl
  refine ⟨fun h => ?_, fun h => ?_⟩
  all_goals
    have hfi : ((f : Nat) : Int) = if m = true then 1 else 0 := by rw [hf]; split <;> rfl
    rw [h] at hfi
    simp only [reduceIte, Bool.false_eq_true, eq_self] at hfi
    have h0 := key f rfl
    have h1 := fin0 f rfl
    clear key fin0
    rw [hfi] at h0 h1
    refine conj.of (by simp; omega) ?_
    simp (disch := omega) only [↓ZD, ZU, ne_eq, Zaa, Zab, false_implies, Zac, Zad, Zae, Zaf, Zag, Zah, Zai, Zaj, Zak, Zal, Zam, Zan, Zao, Zap, Zaq, Zar, Zas, Zat, Zau, Zav, Zaw, Zax, Zay, Zaz, Za0, Za1, Za2, Za3, Za4, Za5, Za6, Za7, Za8, Za9, Zba, Zbb, Zbc, Zbd, Zbe, Zbf, Zbg, Zbh, Zbi, Zbj, Zbk, Zbl, Zbm, Zbn, Zbo, Zbp, Zbq, Zbr, Zbs, Zbt, Zbu, Zbv, Zbw, Zbx, Zby, Zbz, Zb0, Zb1, Zb2, decide_true, decide_false, Zb3, Zb4, Zb5, Zb6, Zb7, Zb8, Zb9, Zca, Zcb, Zcc, Zcd, beq_self_eq_true, cond_true, cond_false, if_false, if_true, reduceIte, reduceCtorEq, not_true_eq_false, not_false_eq_true, true_and, and_true, forall_const, false_and, and_false, implies_true, Zce, Zcf, Zcg, Zch, Zci]
    refine ⟨h1, fun hb => ?_⟩
    have h0' : ¬ (l = [] ∨ (l.getD 0 0 = 48 ∧ (1 < l.length ∨ m = true))) := fun hh => by
      have := h0.mpr hh
      exact absurd (hb.symm.trans this) (by decide)
    have dz : Dg 0 := by unfold Dg; omega
    refine NewB.of fun b1 hb1 hF1 => ?_
    simp (disch := omega) only [hF1, ↓ZD, ZU, ne_eq, Zaa, Zab, false_implies, Zac, Zad, Zae, Zaf, Zag, Zah, Zai, Zaj, Zak, Zal, Zam, Zan, Zao, Zap, Zaq, Zar, Zas, Zat, Zau, Zav, Zaw, Zax, Zay, Zaz, Za0, Za1, Za2, Za3, Za4, Za5, Za6, Za7, Za8, Za9, Zba, Zbb, Zbc, Zbd, Zbe, Zbf, Zbg, Zbh, Zbi, Zbj, Zbk, Zbl, Zbm, Zbn, Zbo, Zbp, Zbq, Zbr, Zbs, Zbt, Zbu, Zbv, Zbw, Zbx, Zby, Zbz, Zb0, Zb1, Zb2, decide_true, decide_false, Zb3, Zb4, Zb5, Zb6, Zb7, Zb8, Zb9, Zca, Zcb, Zcc, Zcd, beq_self_eq_true, cond_true, cond_false, if_false, if_true, reduceIte, reduceCtorEq, not_true_eq_false, not_false_eq_true, true_and, and_true, forall_const, false_and, and_false, implies_true, Zce, Zcf, Zcg, Zch, Zci]
    refine LoopL.inv (α := Nat × Bool × Int × Int) (rreadI f l)
      (fun x => [(0, some (.string (bs s))), (4, some (.int .i64 f)), (5, some (.pointer (some ⟨b1, 0, none⟩))), (6, some (.bool x.2.1)), (7, some (.int .i64 x.1))])
      (fun x => [(b1, .cells #[.int .u64 0, .int .u64 0, .int .u64 x.2.2.1, .int .u64 x.2.2.2] 64 (0, 0))])
      (fun x => f + l.length - x.1) (f, false, 0, 0) ⟨Nat.le_refl _, by omega, dz, dz, by simp, by simp [val, nval, nvalFrom]⟩ ?_ ?_ ?_
    · simp only [Le_nil, Le_cons, hfi]
      simp (disch := omega) only [↓ZD, ZU, ne_eq, Zaa, Zab, false_implies, Zac, Zad, Zae, Zaf, Zag, Zah, Zai, Zaj, Zak, Zal, Zam, Zan, Zao, Zap, Zaq, Zar, Zas, Zat, Zau, Zav, Zaw, Zax, Zay, Zaz, Za0, Za1, Za2, Za3, Za4, Za5, Za6, Za7, Za8, Za9, Zba, Zbb, Zbc, Zbd, Zbe, Zbf, Zbg, Zbh, Zbi, Zbj, Zbk, Zbl, Zbm, Zbn, Zbo, Zbp, Zbq, Zbr, Zbs, Zbt, Zbu, Zbv, Zbw, Zbx, Zby, Zbz, Zb0, Zb1, Zb2, decide_true, decide_false, Zb3, Zb4, Zb5, Zb6, Zb7, Zb8, Zb9, Zca, Zcb, Zcc, Zcd, beq_self_eq_true, cond_true, cond_false, if_false, if_true, reduceIte, reduceCtorEq, not_true_eq_false, not_false_eq_true, true_and, and_true, forall_const, false_and, and_false, implies_true, Zce, Zcf, Zcg, Zch, Zci]
    · simp only [HLe_nil, HLe_cons]
      simp (disch := omega) only [↓ZD, ZU, ne_eq, Zaa, Zab, false_implies, Zac, Zad, Zae, Zaf, Zag, Zah, Zai, Zaj, Zak, Zal, Zam, Zan, Zao, Zap, Zaq, Zar, Zas, Zat, Zau, Zav, Zaw, Zax, Zay, Zaz, Za0, Za1, Za2, Za3, Za4, Za5, Za6, Za7, Za8, Za9, Zba, Zbb, Zbc, Zbd, Zbe, Zbf, Zbg, Zbh, Zbi, Zbj, Zbk, Zbl, Zbm, Zbn, Zbo, Zbp, Zbq, Zbr, Zbs, Zbt, Zbu, Zbv, Zbw, Zbx, Zby, Zbz, Zb0, Zb1, Zb2, decide_true, decide_false, Zb3, Zb4, Zb5, Zb6, Zb7, Zb8, Zb9, Zca, Zcb, Zcc, Zcd, beq_self_eq_true, cond_true, cond_false, if_false, if_true, reduceIte, reduceCtorEq, not_true_eq_false, not_false_eq_true, true_and, and_true, forall_const, false_and, and_false, implies_true, Zce, Zcf, Zcg, Zch, Zci]
    · rintro ⟨i, ov, d2, d3⟩ hI
      obtain ⟨hfi', hi, hd2, hd3, ha, hv⟩ := hI
      simp only at hfi' hi hd2 hd3 ha hv ⊢
      by_cases hlt : i < f + l.length
      · have hd : decide ((i : Int) < (s.length : Int)) = true := by simp; omega
        simp (disch := omega) only [hF1, hd, ↓ZD, ZU, ne_eq, Zaa, Zab, false_implies, Zac, Zad, Zae, Zaf, Zag, Zah, Zai, Zaj, Zak, Zal, Zam, Zan, Zao, Zap, Zaq, Zar, Zas, Zat, Zau, Zav, Zaw, Zax, Zay, Zaz, Za0, Za1, Za2, Za3, Za4, Za5, Za6, Za7, Za8, Za9, Zba, Zbb, Zbc, Zbd, Zbe, Zbf, Zbg, Zbh, Zbi, Zbj, Zbk, Zbl, Zbm, Zbn, Zbo, Zbp, Zbq, Zbr, Zbs, Zbt, Zbu, Zbv, Zbw, Zbx, Zby, Zbz, Zb0, Zb1, Zb2, decide_true, decide_false, Zb3, Zb4, Zb5, Zb6, Zb7, Zb8, Zb9, Zca, Zcb, Zcc, Zcd, beq_self_eq_true, cond_true, cond_false, if_false, if_true, reduceIte, reduceCtorEq, not_true_eq_false, not_false_eq_true, true_and, and_true, forall_const, false_and, and_false, implies_true, Zce, Zcf, Zcg, Zch, Zci]
        refine conj.of (by omega) ?_
        have hlt' : i - f < l.length := by omega
        have hsi : s.getD i 0 = l.getD (i - f) 0 := by
          have := hsd (i - f)
          rwa [show f + (i - f) = i by omega] at this
        simp (disch := omega) only [hF1, hd, Int.toNat_natCast, hsi, ↓ZD, ZU, ne_eq, Zaa, Zab, false_implies, Zac, Zad, Zae, Zaf, Zag, Zah, Zai, Zaj, Zak, Zal, Zam, Zan, Zao, Zap, Zaq, Zar, Zas, Zat, Zau, Zav, Zaw, Zax, Zay, Zaz, Za0, Za1, Za2, Za3, Za4, Za5, Za6, Za7, Za8, Za9, Zba, Zbb, Zbc, Zbd, Zbe, Zbf, Zbg, Zbh, Zbi, Zbj, Zbk, Zbl, Zbm, Zbn, Zbo, Zbp, Zbq, Zbr, Zbs, Zbt, Zbu, Zbv, Zbw, Zbx, Zby, Zbz, Zb0, Zb1, Zb2, decide_true, decide_false, Zb3, Zb4, Zb5, Zb6, Zb7, Zb8, Zb9, Zca, Zcb, Zcc, Zcd, beq_self_eq_true, cond_true, cond_false, if_false, if_true, reduceIte, reduceCtorEq, not_true_eq_false, not_false_eq_true, true_and, and_true, forall_const, false_and, and_false, implies_true, Zce, Zcf, Zcg, Zch, Zci]
        refine conj.of (fun _ => by omega) ?_
        simp (disch := omega) only [hF1, hd, Int.toNat_natCast, hsi, ↓ZD, ZU, ne_eq, Zaa, Zab, false_implies, Zac, Zad, Zae, Zaf, Zag, Zah, Zai, Zaj, Zak, Zal, Zam, Zan, Zao, Zap, Zaq, Zar, Zas, Zat, Zau, Zav, Zaw, Zax, Zay, Zaz, Za0, Za1, Za2, Za3, Za4, Za5, Za6, Za7, Za8, Za9, Zba, Zbb, Zbc, Zbd, Zbe, Zbf, Zbg, Zbh, Zbi, Zbj, Zbk, Zbl, Zbm, Zbn, Zbo, Zbp, Zbq, Zbr, Zbs, Zbt, Zbu, Zbv, Zbw, Zbx, Zby, Zbz, Zb0, Zb1, Zb2, decide_true, decide_false, Zb3, Zb4, Zb5, Zb6, Zb7, Zb8, Zb9, Zca, Zcb, Zcc, Zcd, beq_self_eq_true, cond_true, cond_false, if_false, if_true, reduceIte, reduceCtorEq, not_true_eq_false, not_false_eq_true, true_and, and_true, forall_const, false_and, and_false, implies_true, Zce, Zcf, Zcg, Zch, Zci]
        refine ⟨fun hbad => ?_, fun hgood => ?_⟩
        · unfold readD
          rw [if_pos]
          · rfl
          · refine .inr (.inr ?_)
            rw [List.all_eq_false]
            refine ⟨l.getD (i - f) 0, ?_, ?_⟩
            · rw [List.getD_eq_getElem?_getD, List.getElem?_eq_getElem hlt']; exact List.getElem_mem hlt'
            · unfold isD; simp at hbad ⊢; omega
        · have hc : 48 ≤ (l.getD (i - f) 0).toNat ∧ (l.getD (i - f) 0).toNat ≤ 57 := by simp at hgood ⊢; omega
          have ns := nval_succ l (i - f) hlt'
          have ha' : (l.take (i - f + 1)).all isD = true := by
            rw [List.take_add_one, List.all_append, ha, List.getElem?_eq_getElem hlt']
            have : l.getD (i - f) 0 = l[i - f] := by rw [List.getD_eq_getElem?_getD, List.getElem?_eq_getElem hlt']; rfl
            rw [this] at hc
            simp [isD]; omega
          refine NewB.of fun b2 hb2 hF2 => ?_
          simp only [List.forall_mem_cons, List.not_mem_nil] at hb2
          simp (disch := omega) only [hF1, hF2, ↓ZD, ZU, ne_eq, Zaa, Zab, false_implies, Zac, Zad, Zae, Zaf, Zag, Zah, Zai, Zaj, Zak, Zal, Zam, Zan, Zao, Zap, Zaq, Zar, Zas, Zat, Zau, Zav, Zaw, Zax, Zay, Zaz, Za0, Za1, Za2, Za3, Za4, Za5, Za6, Za7, Za8, Za9, Zba, Zbb, Zbc, Zbd, Zbe, Zbf, Zbg, Zbh, Zbi, Zbj, Zbk, Zbl, Zbm, Zbn, Zbo, Zbp, Zbq, Zbr, Zbs, Zbt, Zbu, Zbv, Zbw, Zbx, Zby, Zbz, Zb0, Zb1, Zb2, decide_true, decide_false, Zb3, Zb4, Zb5, Zb6, Zb7, Zb8, Zb9, Zca, Zcb, Zcc, Zcd, beq_self_eq_true, cond_true, cond_false, if_false, if_true, reduceIte, reduceCtorEq, not_true_eq_false, not_false_eq_true, true_and, and_true, forall_const, false_and, and_false, implies_true, Zce, Zcf, Zcg, Zch, Zci]
          refine LoopL.inv (α := Nat × Int × Int × Int × Int)
            (fun x => x.1 ≤ 10 ∧ Dg x.2.1 ∧ Dg x.2.2.1 ∧ Dg x.2.2.2.1 ∧ Dg x.2.2.2.2 ∧ val x.2.1 x.2.2.1 x.2.2.2.1 x.2.2.2.2 = x.1 * val 0 0 d2 d3)
            (fun x => [(0, some (.string (bs s))), (4, some (.int .i64 f)), (5, some (.pointer (some ⟨b1, 0, none⟩))), (6, some (.bool ov)), (7, some (.int .i64 i)), (8, some (.pointer (some ⟨b2, 0, none⟩))), (9, some (.int .i64 x.1))])
            (fun x => [(b2, .cells #[.int .u64 x.2.1, .int .u64 x.2.2.1, .int .u64 x.2.2.2.1, .int .u64 x.2.2.2.2] 64 (0, 0)), (b1, .cells #[.int .u64 0, .int .u64 0, .int .u64 d2, .int .u64 d3] 64 (0, 0))])
            (fun x => 10 - x.1) (0, 0, 0, 0, 0) ⟨by omega, dz, dz, dz, dz, by simp [val]⟩ ?_ ?_ ?_
          · simp only [Le_nil, Le_cons]
            simp (disch := omega) only [↓ZD, ZU, ne_eq, Zaa, Zab, false_implies, Zac, Zad, Zae, Zaf, Zag, Zah, Zai, Zaj, Zak, Zal, Zam, Zan, Zao, Zap, Zaq, Zar, Zas, Zat, Zau, Zav, Zaw, Zax, Zay, Zaz, Za0, Za1, Za2, Za3, Za4, Za5, Za6, Za7, Za8, Za9, Zba, Zbb, Zbc, Zbd, Zbe, Zbf, Zbg, Zbh, Zbi, Zbj, Zbk, Zbl, Zbm, Zbn, Zbo, Zbp, Zbq, Zbr, Zbs, Zbt, Zbu, Zbv, Zbw, Zbx, Zby, Zbz, Zb0, Zb1, Zb2, decide_true, decide_false, Zb3, Zb4, Zb5, Zb6, Zb7, Zb8, Zb9, Zca, Zcb, Zcc, Zcd, beq_self_eq_true, cond_true, cond_false, if_false, if_true, reduceIte, reduceCtorEq, not_true_eq_false, not_false_eq_true, true_and, and_true, forall_const, false_and, and_false, implies_true, Zce, Zcf, Zcg, Zch, Zci]
          · simp only [HLe_nil, HLe_cons]
            simp (disch := omega) only [↓ZD, ZU, ne_eq, Zaa, Zab, false_implies, Zac, Zad, Zae, Zaf, Zag, Zah, Zai, Zaj, Zak, Zal, Zam, Zan, Zao, Zap, Zaq, Zar, Zas, Zat, Zau, Zav, Zaw, Zax, Zay, Zaz, Za0, Za1, Za2, Za3, Za4, Za5, Za6, Za7, Za8, Za9, Zba, Zbb, Zbc, Zbd, Zbe, Zbf, Zbg, Zbh, Zbi, Zbj, Zbk, Zbl, Zbm, Zbn, Zbo, Zbp, Zbq, Zbr, Zbs, Zbt, Zbu, Zbv, Zbw, Zbx, Zby, Zbz, Zb0, Zb1, Zb2, decide_true, decide_false, Zb3, Zb4, Zb5, Zb6, Zb7, Zb8, Zb9, Zca, Zcb, Zcc, Zcd, beq_self_eq_true, cond_true, cond_false, if_false, if_true, reduceIte, reduceCtorEq, not_true_eq_false, not_false_eq_true, true_and, and_true, forall_const, false_and, and_false, implies_true, Zce, Zcf, Zcg, Zch, Zci]
          · rintro ⟨k, x0, x1, x2, x3⟩ ⟨hk, hx0, hx1, hx2, hx3, hxv⟩
            simp only at hk hx0 hx1 hx2 hx3 hxv ⊢
            have hvd : 0 ≤ val 0 0 d2 d3 ∧ val 0 0 d2 d3 < 18446744073709551616 := by unfold val; unfold Dg at hd2 hd3; omega
            have hkv : (k : Int) * val 0 0 d2 d3 ≤ 10 * val 0 0 d2 d3 := Int.mul_le_mul_of_nonneg_right (by omega) hvd.1
            by_cases hk10 : k < 10
            · have hd10 : decide ((k : Int) < 10) = true := by simp; omega
              obtain ⟨r0, r1, r2, r3, a0, a1, a2, a3, av, ap⟩ := plus_pure F x0 x1 x2 x3 0 0 d2 d3 hx0 hx1 hx2 hx3 dz dz hd2 hd3 (by omega)
              unfold arr at ap
              simp (disch := omega) only [hF1, hF2, hd10, ↓ZD, ZU, ne_eq, Zaa, Zab, false_implies, Zac, Zad, Zae, Zaf, Zag, Zah, Zai, Zaj, Zak, Zal, Zam, Zan, Zao, Zap, Zaq, Zar, Zas, Zat, Zau, Zav, Zaw, Zax, Zay, Zaz, Za0, Za1, Za2, Za3, Za4, Za5, Za6, Za7, Za8, Za9, Zba, Zbb, Zbc, Zbd, Zbe, Zbf, Zbg, Zbh, Zbi, Zbj, Zbk, Zbl, Zbm, Zbn, Zbo, Zbp, Zbq, Zbr, Zbs, Zbt, Zbu, Zbv, Zbw, Zbx, Zby, Zbz, Zb0, Zb1, Zb2, decide_true, decide_false, Zb3, Zb4, Zb5, Zb6, Zb7, Zb8, Zb9, Zca, Zcb, Zcc, Zcd, beq_self_eq_true, cond_true, cond_false, if_false, if_true, reduceIte, reduceCtorEq, not_true_eq_false, not_false_eq_true, true_and, and_true, forall_const, false_and, and_false, implies_true, Zce, Zcf, Zcg, Zch, Zci]
              refine CallE.pure ap ?_
              simp (disch := omega) only [hF1, hF2, ↓ZD, ZU, ne_eq, Zaa, Zab, false_implies, Zac, Zad, Zae, Zaf, Zag, Zah, Zai, Zaj, Zak, Zal, Zam, Zan, Zao, Zap, Zaq, Zar, Zas, Zat, Zau, Zav, Zaw, Zax, Zay, Zaz, Za0, Za1, Za2, Za3, Za4, Za5, Za6, Za7, Za8, Za9, Zba, Zbb, Zbc, Zbd, Zbe, Zbf, Zbg, Zbh, Zbi, Zbj, Zbk, Zbl, Zbm, Zbn, Zbo, Zbp, Zbq, Zbr, Zbs, Zbt, Zbu, Zbv, Zbw, Zbx, Zby, Zbz, Zb0, Zb1, Zb2, decide_true, decide_false, Zb3, Zb4, Zb5, Zb6, Zb7, Zb8, Zb9, Zca, Zcb, Zcc, Zcd, beq_self_eq_true, cond_true, cond_false, if_false, if_true, reduceIte, reduceCtorEq, not_true_eq_false, not_false_eq_true, true_and, and_true, forall_const, false_and, and_false, implies_true, Zce, Zcf, Zcg, Zch, Zci]
              refine invK.on (k + 1, r0, r1, r2, r3) ⟨?_, a0, a1, a2, a3, ?_⟩ ?_ ?_ ?_
              · show k + 1 ≤ 10
                omega
              · show val r0 r1 r2 r3 = ((k + 1 : Nat) : Int) * val 0 0 d2 d3
                rw [av, hxv]
                have : ((k + 1 : Nat) : Int) = (k : Int) + 1 := rfl
                rw [this, Int.add_mul, Int.one_mul]
              · show 10 - (k + 1) < 10 - k
                omega
              · simp only [Le_nil, Le_cons]
                simp (disch := omega) only [↓ZD, ZU, ne_eq, Zaa, Zab, false_implies, Zac, Zad, Zae, Zaf, Zag, Zah, Zai, Zaj, Zak, Zal, Zam, Zan, Zao, Zap, Zaq, Zar, Zas, Zat, Zau, Zav, Zaw, Zax, Zay, Zaz, Za0, Za1, Za2, Za3, Za4, Za5, Za6, Za7, Za8, Za9, Zba, Zbb, Zbc, Zbd, Zbe, Zbf, Zbg, Zbh, Zbi, Zbj, Zbk, Zbl, Zbm, Zbn, Zbo, Zbp, Zbq, Zbr, Zbs, Zbt, Zbu, Zbv, Zbw, Zbx, Zby, Zbz, Zb0, Zb1, Zb2, decide_true, decide_false, Zb3, Zb4, Zb5, Zb6, Zb7, Zb8, Zb9, Zca, Zcb, Zcc, Zcd, beq_self_eq_true, cond_true, cond_false, if_false, if_true, reduceIte, reduceCtorEq, not_true_eq_false, not_false_eq_true, true_and, and_true, forall_const, false_and, and_false, implies_true, Zce, Zcf, Zcg, Zch, Zci]
                trivial
              · simp only [HLe_nil, HLe_cons]
                simp (disch := omega) only [↓ZD, ZU, ne_eq, Zaa, Zab, false_implies, Zac, Zad, Zae, Zaf, Zag, Zah, Zai, Zaj, Zak, Zal, Zam, Zan, Zao, Zap, Zaq, Zar, Zas, Zat, Zau, Zav, Zaw, Zax, Zay, Zaz, Za0, Za1, Za2, Za3, Za4, Za5, Za6, Za7, Za8, Za9, Zba, Zbb, Zbc, Zbd, Zbe, Zbf, Zbg, Zbh, Zbi, Zbj, Zbk, Zbl, Zbm, Zbn, Zbo, Zbp, Zbq, Zbr, Zbs, Zbt, Zbu, Zbv, Zbw, Zbx, Zby, Zbz, Zb0, Zb1, Zb2, decide_true, decide_false, Zb3, Zb4, Zb5, Zb6, Zb7, Zb8, Zb9, Zca, Zcb, Zcc, Zcd, beq_self_eq_true, cond_true, cond_false, if_false, if_true, reduceIte, reduceCtorEq, not_true_eq_false, not_false_eq_true, true_and, and_true, forall_const, false_and, and_false, implies_true, Zce, Zcf, Zcg, Zch, Zci]
            · have hd10 : decide ((k : Int) < 10) = false := by simp; omega
              have hk' : k = 10 := by omega
              rw [hk'] at hxv
              obtain ⟨c, hcc⟩ : ∃ c : Nat, c = (l.getD (i - f) 0).toNat := ⟨_, rfl⟩
              rw [← hcc] at hc ns
              have dc : Dg ((c : Int) - 48) := by unfold Dg; omega
              have hvc : val 0 0 0 ((c : Int) - 48) = (c : Int) - 48 := by unfold val; omega
              obtain ⟨r0, r1, r2, r3, a0, a1, a2, a3, av, ap⟩ := plus_pure F x0 x1 x2 x3 0 0 0 ((c : Int) - 48) hx0 hx1 hx2 hx3 dz dz dz dc (by rw [hxv, hvc]; omega)
              rw [hxv, hvc] at av
              unfold arr at ap
              simp (disch := omega) only [hF1, hF2, hd10, ↓ZD, ZU, ne_eq, Zaa, Zab, false_implies, Zac, Zad, Zae, Zaf, Zag, Zah, Zai, Zaj, Zak, Zal, Zam, Zan, Zao, Zap, Zaq, Zar, Zas, Zat, Zau, Zav, Zaw, Zax, Zay, Zaz, Za0, Za1, Za2, Za3, Za4, Za5, Za6, Za7, Za8, Za9, Zba, Zbb, Zbc, Zbd, Zbe, Zbf, Zbg, Zbh, Zbi, Zbj, Zbk, Zbl, Zbm, Zbn, Zbo, Zbp, Zbq, Zbr, Zbs, Zbt, Zbu, Zbv, Zbw, Zbx, Zby, Zbz, Zb0, Zb1, Zb2, decide_true, decide_false, Zb3, Zb4, Zb5, Zb6, Zb7, Zb8, Zb9, Zca, Zcb, Zcc, Zcd, beq_self_eq_true, cond_true, cond_false, if_false, if_true, reduceIte, reduceCtorEq, not_true_eq_false, not_false_eq_true, true_and, and_true, forall_const, false_and, and_false, implies_true, Zce, Zcf, Zcg, Zch, Zci]
              refine conj.of (by omega) ?_
              simp (disch := omega) only [hF1, hF2, hd10, Int.toNat_natCast, hsi, ← hcc, ↓ZD, ZU, ne_eq, Zaa, Zab, false_implies, Zac, Zad, Zae, Zaf, Zag, Zah, Zai, Zaj, Zak, Zal, Zam, Zan, Zao, Zap, Zaq, Zar, Zas, Zat, Zau, Zav, Zaw, Zax, Zay, Zaz, Za0, Za1, Za2, Za3, Za4, Za5, Za6, Za7, Za8, Za9, Zba, Zbb, Zbc, Zbd, Zbe, Zbf, Zbg, Zbh, Zbi, Zbj, Zbk, Zbl, Zbm, Zbn, Zbo, Zbp, Zbq, Zbr, Zbs, Zbt, Zbu, Zbv, Zbw, Zbx, Zby, Zbz, Zb0, Zb1, Zb2, decide_true, decide_false, Zb3, Zb4, Zb5, Zb6, Zb7, Zb8, Zb9, Zca, Zcb, Zcc, Zcd, beq_self_eq_true, cond_true, cond_false, if_false, if_true, reduceIte, reduceCtorEq, not_true_eq_false, not_false_eq_true, true_and, and_true, forall_const, false_and, and_false, implies_true, Zce, Zcf, Zcg, Zch, Zci]
              refine CallQ.of _ ap.up ?_
              simp (disch := omega) only [hF1, hF2, ↓ZD, ZU, ne_eq, Zaa, Zab, false_implies, Zac, Zad, Zae, Zaf, Zag, Zah, Zai, Zaj, Zak, Zal, Zam, Zan, Zao, Zap, Zaq, Zar, Zas, Zat, Zau, Zav, Zaw, Zax, Zay, Zaz, Za0, Za1, Za2, Za3, Za4, Za5, Za6, Za7, Za8, Za9, Zba, Zbb, Zbc, Zbd, Zbe, Zbf, Zbg, Zbh, Zbi, Zbj, Zbk, Zbl, Zbm, Zbn, Zbo, Zbp, Zbq, Zbr, Zbs, Zbt, Zbu, Zbv, Zbw, Zbx, Zby, Zbz, Zb0, Zb1, Zb2, decide_true, decide_false, Zb3, Zb4, Zb5, Zb6, Zb7, Zb8, Zb9, Zca, Zcb, Zcc, Zcd, beq_self_eq_true, cond_true, cond_false, if_false, if_true, reduceIte, reduceCtorEq, not_true_eq_false, not_false_eq_true, true_and, and_true, forall_const, false_and, and_false, implies_true, Zce, Zcf, Zcg, Zch, Zci]
              have ei : i + 1 - f = i - f + 1 := by omega
              refine ⟨fun hov => ?_, fun hov => ?_⟩
              · refine invK.on (i + 1, true, 0, 0) ⟨?_, ?_, dz, dz, ?_, ?_⟩ ?_ ?_ ?_
                · show f ≤ i + 1
                  omega
                · show i + 1 ≤ f + l.length
                  omega
                · show (l.take (i + 1 - f)).all isD = true
                  rw [ei]; exact ha'
                · show (if true = true then 18446744073709551616 ≤ nval (l.take (i + 1 - f)) else _)
                  rw [ei, if_pos rfl, ns]
                  cases ov with
                  | true => simp only [if_true] at hv; omega
                  | false =>
                    simp only [Bool.false_eq_true, if_false] at hv
                    simp at hov
                    unfold val at av hv
                    unfold Dg at a0 a1 a2 a3
                    omega
                · show f + l.length - (i + 1) < f + l.length - i
                  omega
                · simp only [Le_nil, Le_cons]
                  simp (disch := omega) only [↓ZD, ZU, ne_eq, Zaa, Zab, false_implies, Zac, Zad, Zae, Zaf, Zag, Zah, Zai, Zaj, Zak, Zal, Zam, Zan, Zao, Zap, Zaq, Zar, Zas, Zat, Zau, Zav, Zaw, Zax, Zay, Zaz, Za0, Za1, Za2, Za3, Za4, Za5, Za6, Za7, Za8, Za9, Zba, Zbb, Zbc, Zbd, Zbe, Zbf, Zbg, Zbh, Zbi, Zbj, Zbk, Zbl, Zbm, Zbn, Zbo, Zbp, Zbq, Zbr, Zbs, Zbt, Zbu, Zbv, Zbw, Zbx, Zby, Zbz, Zb0, Zb1, Zb2, decide_true, decide_false, Zb3, Zb4, Zb5, Zb6, Zb7, Zb8, Zb9, Zca, Zcb, Zcc, Zcd, beq_self_eq_true, cond_true, cond_false, if_false, if_true, reduceIte, reduceCtorEq, not_true_eq_false, not_false_eq_true, true_and, and_true, forall_const, false_and, and_false, implies_true, Zce, Zcf, Zcg, Zch, Zci]
                  trivial
                · simp only [HLe_nil, HLe_cons]
                  simp (disch := omega) only [↓ZD, ZU, ne_eq, Zaa, Zab, false_implies, Zac, Zad, Zae, Zaf, Zag, Zah, Zai, Zaj, Zak, Zal, Zam, Zan, Zao, Zap, Zaq, Zar, Zas, Zat, Zau, Zav, Zaw, Zax, Zay, Zaz, Za0, Za1, Za2, Za3, Za4, Za5, Za6, Za7, Za8, Za9, Zba, Zbb, Zbc, Zbd, Zbe, Zbf, Zbg, Zbh, Zbi, Zbj, Zbk, Zbl, Zbm, Zbn, Zbo, Zbp, Zbq, Zbr, Zbs, Zbt, Zbu, Zbv, Zbw, Zbx, Zby, Zbz, Zb0, Zb1, Zb2, decide_true, decide_false, Zb3, Zb4, Zb5, Zb6, Zb7, Zb8, Zb9, Zca, Zcb, Zcc, Zcd, beq_self_eq_true, cond_true, cond_false, if_false, if_true, reduceIte, reduceCtorEq, not_true_eq_false, not_false_eq_true, true_and, and_true, forall_const, false_and, and_false, implies_true, Zce, Zcf, Zcg, Zch, Zci]
              · simp at hov
                obtain ⟨h00, h11⟩ := hov
                have z0 : r0 = 0 := by unfold Dg at a0; omega
                have z1 : r1 = 0 := by unfold Dg at a1; omega
                subst z0 z1
                refine invK.on (i + 1, ov, r2, r3) ⟨?_, ?_, a2, a3, ?_, ?_⟩ ?_ ?_ ?_
                · show f ≤ i + 1
                  omega
                · show i + 1 ≤ f + l.length
                  omega
                · show (l.take (i + 1 - f)).all isD = true
                  rw [ei]; exact ha'
                · show (if ov = true then 18446744073709551616 ≤ nval (l.take (i + 1 - f)) else val 0 0 r2 r3 = nval (l.take (i + 1 - f)))
                  rw [ei, ns]
                  cases ov with
                  | true => simp only [if_true] at hv ⊢; omega
                  | false =>
                    simp only [Bool.false_eq_true, if_false] at hv ⊢
                    rw [av, hv]; omega
                · show f + l.length - (i + 1) < f + l.length - i
                  omega
                · simp only [Le_nil, Le_cons]
                  simp (disch := omega) only [↓ZD, ZU, ne_eq, Zaa, Zab, false_implies, Zac, Zad, Zae, Zaf, Zag, Zah, Zai, Zaj, Zak, Zal, Zam, Zan, Zao, Zap, Zaq, Zar, Zas, Zat, Zau, Zav, Zaw, Zax, Zay, Zaz, Za0, Za1, Za2, Za3, Za4, Za5, Za6, Za7, Za8, Za9, Zba, Zbb, Zbc, Zbd, Zbe, Zbf, Zbg, Zbh, Zbi, Zbj, Zbk, Zbl, Zbm, Zbn, Zbo, Zbp, Zbq, Zbr, Zbs, Zbt, Zbu, Zbv, Zbw, Zbx, Zby, Zbz, Zb0, Zb1, Zb2, decide_true, decide_false, Zb3, Zb4, Zb5, Zb6, Zb7, Zb8, Zb9, Zca, Zcb, Zcc, Zcd, beq_self_eq_true, cond_true, cond_false, if_false, if_true, reduceIte, reduceCtorEq, not_true_eq_false, not_false_eq_true, true_and, and_true, forall_const, false_and, and_false, implies_true, Zce, Zcf, Zcg, Zch, Zci]
                  trivial
                · simp only [HLe_nil, HLe_cons]
                  simp (disch := omega) only [↓ZD, ZU, ne_eq, Zaa, Zab, false_implies, Zac, Zad, Zae, Zaf, Zag, Zah, Zai, Zaj, Zak, Zal, Zam, Zan, Zao, Zap, Zaq, Zar, Zas, Zat, Zau, Zav, Zaw, Zax, Zay, Zaz, Za0, Za1, Za2, Za3, Za4, Za5, Za6, Za7, Za8, Za9, Zba, Zbb, Zbc, Zbd, Zbe, Zbf, Zbg, Zbh, Zbi, Zbj, Zbk, Zbl, Zbm, Zbn, Zbo, Zbp, Zbq, Zbr, Zbs, Zbt, Zbu, Zbv, Zbw, Zbx, Zby, Zbz, Zb0, Zb1, Zb2, decide_true, decide_false, Zb3, Zb4, Zb5, Zb6, Zb7, Zb8, Zb9, Zca, Zcb, Zcc, Zcd, beq_self_eq_true, cond_true, cond_false, if_false, if_true, reduceIte, reduceCtorEq, not_true_eq_false, not_false_eq_true, true_and, and_true, forall_const, false_and, and_false, implies_true, Zce, Zcf, Zcg, Zch, Zci]
      · have hd : decide ((i : Int) < (s.length : Int)) = false := by simp; omega
        simp (disch := omega) only [hF1, hd, ↓ZD, ZU, ne_eq, Zaa, Zab, false_implies, Zac, Zad, Zae, Zaf, Zag, Zah, Zai, Zaj, Zak, Zal, Zam, Zan, Zao, Zap, Zaq, Zar, Zas, Zat, Zau, Zav, Zaw, Zax, Zay, Zaz, Za0, Za1, Za2, Za3, Za4, Za5, Za6, Za7, Za8, Za9, Zba, Zbb, Zbc, Zbd, Zbe, Zbf, Zbg, Zbh, Zbi, Zbj, Zbk, Zbl, Zbm, Zbn, Zbo, Zbp, Zbq, Zbr, Zbs, Zbt, Zbu, Zbv, Zbw, Zbx, Zby, Zbz, Zb0, Zb1, Zb2, decide_true, decide_false, Zb3, Zb4, Zb5, Zb6, Zb7, Zb8, Zb9, Zca, Zcb, Zcc, Zcd, beq_self_eq_true, cond_true, cond_false, if_false, if_true, reduceIte, reduceCtorEq, not_true_eq_false, not_false_eq_true, true_and, and_true, forall_const, false_and, and_false, implies_true, Zce, Zcf, Zcg, Zch, Zci]
        have hil : i - f = l.length := by omega
        rw [hil, List.take_length] at ha hv
        have hr : readD m l = fitR (if m then -(nval l : Int) else nval l) := by
          unfold readD
          rw [if_neg]
          rintro (h | h | h)
          · exact h0' (.inl h)
          · exact h0' (.inr h)
          · rw [ha] at h; cases h
        refine ⟨fun ho => ?_, fun ho => ?_⟩
        · subst ho
          simp only [if_true] at hv
          rw [hr]
          exact fit_no (by unfold I64; split <;> omega)
        · subst ho
          simp only [Bool.false_eq_true, if_false] at hv
          rw [hr, ← hv]
          have hfm : ((f : Int) == 1) = m := by rw [hfi, h]; rfl
          have hfit := fit_pure F m 0 0 d2 d3 dz dz hd2 hd3
          unfold nn at hfit
          rw [hfm]
          refine CallE.pure hfit ?_
          simp (disch := omega) only [pr, ↓ZD, ZU, ne_eq, Zaa, Zab, false_implies, Zac, Zad, Zae, Zaf, Zag, Zah, Zai, Zaj, Zak, Zal, Zam, Zan, Zao, Zap, Zaq, Zar, Zas, Zat, Zau, Zav, Zaw, Zax, Zay, Zaz, Za0, Za1, Za2, Za3, Za4, Za5, Za6, Za7, Za8, Za9, Zba, Zbb, Zbc, Zbd, Zbe, Zbf, Zbg, Zbh, Zbi, Zbj, Zbk, Zbl, Zbm, Zbn, Zbo, Zbp, Zbq, Zbr, Zbs, Zbt, Zbu, Zbv, Zbw, Zbx, Zby, Zbz, Zb0, Zb1, Zb2, decide_true, decide_false, Zb3, Zb4, Zb5, Zb6, Zb7, Zb8, Zb9, Zca, Zcb, Zcc, Zcd, beq_self_eq_true, cond_true, cond_false, if_false, if_true, reduceIte, reduceCtorEq, not_true_eq_false, not_false_eq_true, true_and, and_true, forall_const, false_and, and_false, implies_true, Zce, Zcf, Zcg, Zch, Zci]
end Go.Proofs.YtndnpmlhofijjaaDoor
