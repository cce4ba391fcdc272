/- Layer 11: records of one attribute: walked. -/
import Derived.Test.YtdljgcicncegkaaN
namespace Go.Proofs.Ytdljgcicncegkaa
open Go Go.Eng
open Int renaming reduceEq → Zaa, cast_ofNat_Int → Zac, reduceToNat → Zbu, toNat_zero → Zbv, toNat_one → Zbw, reduceLE → Zbx, reduceLT → Zby, reduceAdd → Zbz, reduceSub → Zb0, reduceNeg → Zb1, zero_add → Zb2, reducePow → Zcg, reduceNegSucc → Zci
open UInt8 renaming reduceOfNat → Zab
open List renaming toList_toArray → Zad, length_append → Zag, cons_append → Zav, nil_append → Zaw, length_cons → Zax, length_nil → Zay, drop_zero → Zaz, drop_succ_cons → Za0, take_succ_cons → Za1, take_zero → Za2, drop_nil → Za3, take_nil → Za4, append_nil → Za5, all_cons → Za6, all_nil → Za7, isEmpty_cons → Za8, size_toArray → Za9, getElem?_toArray → Zba, getElem?_cons_zero → Zbb, getElem?_cons_succ → Zbc, getD_cons_zero → Zbd, getD_cons_succ → Zbe, mapM_cons → Zbf, mapM_nil → Zbg
open Option renaming getD_some → Zae, getD_none → Zaf, map_some → Zar, map_none → Zas, bind_some → Zat, bind_none → Zau
open Nat renaming le_add_right → Zah, reduceAdd → Zbi, reduceMul → Zbj, reduceMod → Zbk, reduceDiv → Zbl, reduceEqDiff → Zbm, reduceBEq → Zbn, reduceLeDiff → Zbo, reduceSub → Zbp, zero_add → Zbq, add_zero → Zbr, le_refl → Zbs, zero_le → Zbt, reducePow → Zcf, reduceLT → Zch
open Go.Eng renaming subG → Zai, lit → Zaj, isPar → Zak, numb → Zal, Wf → Zam, resV → Zan, oneCell → Zao, isB → Zap, asB → Zaq
open Go.Value renaming cells → Zbh
open Bool renaming and_true → Zb3, true_and → Zb4, and_self → Zb5, not_true → Zb6, not_false → Zb7, and_false → Zb8, or_false → Zb9, or_true → Zca, true_or → Zcb, false_or → Zcc, false_and → Zcd, false_eq_true → Zce
set_option linter.unusedSimpArgs false
set_option linter.unusedVariables false
set_option maxRecDepth 20000

/-- A record of one attribute. -/
def rec1 (a : Ty) (x : Bool) : Ty := .mk 8 [] [] [([110], a, x)]
theorem below_rec1 (a b : Ty) (x y : Bool) : below (rec1 a x) (rec1 b y) = (below a b && (!x || y)) := by
  rw [Bool.eq_iff_iff, rec1, rec1, below_def]
  simp only [all2, Bool.and_true]
  cases x <;> cases y <;> cases below a b <;> simp
theorem below_rec1_l (a : Ty) (x : Bool) : below (rec1 a x) (.mk 8 [] [] []) = false := by
  cases h : below (rec1 a x) (.mk 8 [] [] []) with
  | false => rfl
  | true => rw [rec1, below_def] at h; simp [all2] at h
theorem below_rec1_r (a : Ty) (x : Bool) : below (.mk 8 [] [] []) (rec1 a x) = false := by
  cases h : below (.mk 8 [] [] []) (rec1 a x) with
  | false => rfl
  | true => rw [rec1, below_def] at h; simp [all2] at h
theorem few_rec1 {a : Ty} (x : Bool) (h : few a 0 = true) : few (rec1 a x) (-1) = true := by
  rw [rec1, few]
  simp [fewL, fewA, h]
theorem join_below {a b : Ty} (h : below a b = true) : join a b = some b := by
  obtain ⟨k, n, es, ats⟩ := a
  obtain ⟨k', n', es', ats'⟩ := b
  rw [join_eq, if_pos h]
theorem join_above {a b : Ty} (h0 : below a b = false) (h : below b a = true) : join a b = some a := by
  obtain ⟨k, n, es, ats⟩ := a
  obtain ⟨k', n', es', ats'⟩ := b
  rw [join_eq, if_neg (by rw [h0]; simp), if_pos h]
theorem join_rec1 (a b : Ty) (x y : Bool) : match join a b with
    | some t => ∃ u, join (rec1 a x) (rec1 b y) = some (rec1 u (x || y)) ∧ same u t = true
    | none => join (rec1 a x) (rec1 b y) = none := by
  have h1 := below_rec1 a b x y
  have h2 := below_rec1 b a y x
  have h3 : below (rec1 a x) (rec1 b y) = false → below (rec1 b y) (rec1 a x) = false → join (rec1 a x) (rec1 b y) = (join a b).map fun u => rec1 u (x || y) := fun e1 e2 => by
    unfold rec1 at e1 e2 ⊢
    rw [join_eq, if_neg (by rw [e1]; simp), if_neg (by rw [e2]; simp), if_neg (by simp), if_neg (by simp), if_pos ⟨rfl, rfl, by simp [names, all2]⟩, joinA]
    cases join a b with
    | none => rfl
    | some u => simp [joinA]
  cases hab : below a b with
  | true =>
    rw [join_below hab]
    rw [hab, Bool.true_and] at h1
    show ∃ u, _
    cases hxy : (!x || y) with
    | true =>
      rw [hxy] at h1
      refine ⟨b, ?_, same_refl b⟩
      rw [join_below h1]
      revert hxy; cases x <;> cases y <;> simp
    | false =>
      rw [hxy] at h1
      cases hba : below b a with
      | true =>
        have hs : same a b = true := by rw [← below_anti, hab, hba]; rfl
        have : below (rec1 b y) (rec1 a x) = true := by rw [h2, hba]; revert hxy; cases x <;> cases y <;> simp
        refine ⟨a, ?_, hs⟩
        rw [join_above h1 this]
        revert hxy; cases x <;> cases y <;> simp
      | false =>
        have h2' : below (rec1 b y) (rec1 a x) = false := by rw [h2, hba]; rfl
        refine ⟨b, ?_, same_refl b⟩
        rw [h3 h1 h2', join_below hab]; rfl
  | false =>
    have h1' : below (rec1 a x) (rec1 b y) = false := by rw [h1, hab]; rfl
    cases hba : below b a with
    | true =>
      rw [join_above hab hba]
      show ∃ u, _
      cases hxy : (!y || x) with
      | true =>
        refine ⟨a, ?_, same_refl a⟩
        rw [join_above h1' (by rw [h2, hba, hxy]; rfl)]
        revert hxy; cases x <;> cases y <;> simp
      | false =>
        refine ⟨a, ?_, same_refl a⟩
        rw [h3 h1' (by rw [h2, hba, hxy]; rfl), join_above hab hba]; rfl
    | false =>
      have h2' : below (rec1 b y) (rec1 a x) = false := by rw [h2, hba]; rfl
      have e := h3 h1' h2'
      cases hj : join a b with
      | none => rw [hj] at e; exact e
      | some t => rw [hj] at e; exact ⟨t, e, same_refl t⟩
theorem rdObj_flat (F : Base) (H : Hp) : rdObj (rdObj F H) [] = rdObj F H := by
  funext b
  unfold rdObj
  cases F b with
  | some o => rfl
  | none => cases h : lk H b <;> simp [h, lk]
theorem ldV_flat {F : Base} {H : Hp} {n : Nat} {g : Bool} {p : Value} : ldV (rdObj F H) [] n g p = ldV F H n g p := by
  unfold ldV qev cellsAt
  rw [rdObj_flat]
theorem rep_rec1 {G : Base} {b : Nat} {cs : List Value} {t : Ty} {x : Bool} (hb : G b = some (.cells (.string (bs [110]) :: (cs ++ [.bool x])).toArray 30 (0, 0))) (hr : RepT G cs t) :
    RepT G [.int .i64 8, .string (bs []), .slice none 0 0, .slice (some ⟨b, 0, none⟩) 1 1] (rec1 t x) := by
  have hl : cs.length = 4 := by obtain ⟨_, _, _, _, _, _, _, _, rfl⟩ := hr.form; rfl
  have h := RowsA.snoc (r := []) (rows := []) (G := G) (fun j x h => by simp at h) rfl (n := [110]) (o := x) hr (by simp)
  exact rep_rec (sp := []) (cap := 1) (by rw [List.append_nil]; exact hb) h (by simp [hl]) (by simp) (by simp)
theorem rec1_out {G : Base} {cs : List Value} {t : Ty} {x : Bool} (h : RepT G cs (rec1 t x)) : ∃ a1 c1 a2 c2 c, cs = [.int .i64 8, .string (bs []), .slice a1 0 c1, .slice a2 1 c2] ∧ Cl G a2 6 0 (.string (bs [110]) :: (c ++ [.bool x])) ∧ RepT G c t := by
  unfold rec1 at h
  cases h with
  | mk k nm a1 c1 a2 c2 es ats g1 g2 hk hn hl1 hl2 hc1 hc2 h1 r1 h2 r2 => exact ⟨a1, c1, a2, c2, g2 0, rfl, h2 0 _ rfl, r2 0 _ rfl⟩
theorem opt_law (F : Base) {ca cb : List Value} {a b : Ty} (ha : RepT F ca a) (hb : RepT F cb b) (x y : Bool) : PureV Try.prog F 7 #[.agg ca.toArray, .agg cb.toArray, .bool x, .bool y] (.bool true) := by
  have f1 := fit_pure F ha hb
  have da := fun h => rdepth_pure F ha h
  have db := fun h => rdepth_pure F hb h
  have bab := below_pure F ha _ _ hb
  have k1 := fun h => join_does F ha _ _ 0 hb h
  have hA := ha
  have hB := hb
  obtain ⟨v1, v2, v3, v4, v5, v6, v7, v8, rfl⟩ := ha.form
  obtain ⟨u1, u2, u3, u4, u5, u6, u7, u8, rfl⟩ := hb.form
  refine pureV_of_svc mixed Try.func7 low7 (Nat.le_of_ble_eq_true rfl) (fun w0 => ?_)
  simp (disch := first | assumption | exact Ne.symm (by assumption) | omega) only [fu7, ↓ZD, ZU, ne_eq, Zaa, Zab, false_implies, Zac, Zad, Zae, Zaf, Zag, Zah, Zai, Zaj, Zak, Zal, Zam, Zan, Zao, Zap, Zaq, Zar, Zas, Zat, Zau, Zav, Zaw, Zax, Zay, Zaz, Za0, Za1, Za2, Za3, Za4, Za5, Za6, Za7, Za8, Za9, Zba, Zbb, Zbc, Zbd, Zbe, Zbf, Zbg, Zbh, Zbi, Zbj, Zbk, Zbl, Zbm, Zbn, Zbo, Zbp, Zbq, Zbr, Zbs, Zbt, Zbu, Zbv, Zbw, Zbx, Zby, Zbz, Zb0, Zb1, Zb2, decide_true, decide_false, Zb3, Zb4, Zb5, Zb6, Zb7, Zb8, Zb9, Zca, Zcb, Zcc, Zcd, beq_self_eq_true, cond_true, cond_false, if_false, if_true, reduceIte, reduceCtorEq, not_true_eq_false, not_false_eq_true, true_and, and_true, forall_const, false_and, and_false, implies_true, Zce, Zcf, Zcg, Zch, Zci]
  refine NewB.of fun b1 hb1 hF1 => ?_
  simp (disch := first | assumption | exact Ne.symm (by assumption) | omega) only [hF1, ↓ZD, ZU, ne_eq, Zaa, Zab, false_implies, Zac, Zad, Zae, Zaf, Zag, Zah, Zai, Zaj, Zak, Zal, Zam, Zan, Zao, Zap, Zaq, Zar, Zas, Zat, Zau, Zav, Zaw, Zax, Zay, Zaz, Za0, Za1, Za2, Za3, Za4, Za5, Za6, Za7, Za8, Za9, Zba, Zbb, Zbc, Zbd, Zbe, Zbf, Zbg, Zbh, Zbi, Zbj, Zbk, Zbl, Zbm, Zbn, Zbo, Zbp, Zbq, Zbr, Zbs, Zbt, Zbu, Zbv, Zbw, Zbx, Zby, Zbz, Zb0, Zb1, Zb2, decide_true, decide_false, Zb3, Zb4, Zb5, Zb6, Zb7, Zb8, Zb9, Zca, Zcb, Zcc, Zcd, beq_self_eq_true, cond_true, cond_false, if_false, if_true, reduceIte, reduceCtorEq, not_true_eq_false, not_false_eq_true, true_and, and_true, forall_const, false_and, and_false, implies_true, Zce, Zcf, Zcg, Zch, Zci]
  refine NewB.of fun b2 hb2 hF2 => ?_
  simp only [List.forall_mem_cons] at hb2
  obtain ⟨_, _⟩ := hb2
  simp (disch := first | assumption | exact Ne.symm (by assumption) | omega) only [hF1, hF2, ↓ZD, ZU, ne_eq, Zaa, Zab, false_implies, Zac, Zad, Zae, Zaf, Zag, Zah, Zai, Zaj, Zak, Zal, Zam, Zan, Zao, Zap, Zaq, Zar, Zas, Zat, Zau, Zav, Zaw, Zax, Zay, Zaz, Za0, Za1, Za2, Za3, Za4, Za5, Za6, Za7, Za8, Za9, Zba, Zbb, Zbc, Zbd, Zbe, Zbf, Zbg, Zbh, Zbi, Zbj, Zbk, Zbl, Zbm, Zbn, Zbo, Zbp, Zbq, Zbr, Zbs, Zbt, Zbu, Zbv, Zbw, Zbx, Zby, Zbz, Zb0, Zb1, Zb2, decide_true, decide_false, Zb3, Zb4, Zb5, Zb6, Zb7, Zb8, Zb9, Zca, Zcb, Zcc, Zcd, beq_self_eq_true, cond_true, cond_false, if_false, if_true, reduceIte, reduceCtorEq, not_true_eq_false, not_false_eq_true, true_and, and_true, forall_const, false_and, and_false, implies_true, Zce, Zcf, Zcg, Zch, Zci]
  refine CallE.pure (awake_pure F) ?_
  simp (disch := first | assumption | exact Ne.symm (by assumption) | omega) only [hF1, hF2, ↓ZD, ZU, ne_eq, Zaa, Zab, false_implies, Zac, Zad, Zae, Zaf, Zag, Zah, Zai, Zaj, Zak, Zal, Zam, Zan, Zao, Zap, Zaq, Zar, Zas, Zat, Zau, Zav, Zaw, Zax, Zay, Zaz, Za0, Za1, Za2, Za3, Za4, Za5, Za6, Za7, Za8, Za9, Zba, Zbb, Zbc, Zbd, Zbe, Zbf, Zbg, Zbh, Zbi, Zbj, Zbk, Zbl, Zbm, Zbn, Zbo, Zbp, Zbq, Zbr, Zbs, Zbt, Zbu, Zbv, Zbw, Zbx, Zby, Zbz, Zb0, Zb1, Zb2, decide_true, decide_false, Zb3, Zb4, Zb5, Zb6, Zb7, Zb8, Zb9, Zca, Zcb, Zcc, Zcd, beq_self_eq_true, cond_true, cond_false, if_false, if_true, reduceIte, reduceCtorEq, not_true_eq_false, not_false_eq_true, true_and, and_true, forall_const, false_and, and_false, implies_true, Zce, Zcf, Zcg, Zch, Zci]
  refine CallE.pure f1 ?_
  simp (disch := first | assumption | exact Ne.symm (by assumption) | omega) only [hF1, hF2, ↓ZD, ZU, ne_eq, Zaa, Zab, false_implies, Zac, Zad, Zae, Zaf, Zag, Zah, Zai, Zaj, Zak, Zal, Zam, Zan, Zao, Zap, Zaq, Zar, Zas, Zat, Zau, Zav, Zaw, Zax, Zay, Zaz, Za0, Za1, Za2, Za3, Za4, Za5, Za6, Za7, Za8, Za9, Zba, Zbb, Zbc, Zbd, Zbe, Zbf, Zbg, Zbh, Zbi, Zbj, Zbk, Zbl, Zbm, Zbn, Zbo, Zbp, Zbq, Zbr, Zbs, Zbt, Zbu, Zbv, Zbw, Zbx, Zby, Zbz, Zb0, Zb1, Zb2, decide_true, decide_false, Zb3, Zb4, Zb5, Zb6, Zb7, Zb8, Zb9, Zca, Zcb, Zcc, Zcd, beq_self_eq_true, cond_true, cond_false, if_false, if_true, reduceIte, reduceCtorEq, not_true_eq_false, not_false_eq_true, true_and, and_true, forall_const, false_and, and_false, implies_true, Zce, Zcf, Zcg, Zch, Zci]
  have hfd : fit a b = true → depth a ≤ 1000000 ∧ depth b ≤ 1000000 := fun h => by
    obtain ⟨-, -, w1, w2⟩ := fit_all h
    have := few_depth a 0 w1
    have := few_depth b 0 w2
    omega
  refine CallQ.of _ (fun h => (da (hfd (by simpa using h)).1).up) ?_
  simp (disch := first | assumption | exact Ne.symm (by assumption) | omega) only [hF1, hF2, ↓ZD, ZU, ne_eq, Zaa, Zab, false_implies, Zac, Zad, Zae, Zaf, Zag, Zah, Zai, Zaj, Zak, Zal, Zam, Zan, Zao, Zap, Zaq, Zar, Zas, Zat, Zau, Zav, Zaw, Zax, Zay, Zaz, Za0, Za1, Za2, Za3, Za4, Za5, Za6, Za7, Za8, Za9, Zba, Zbb, Zbc, Zbd, Zbe, Zbf, Zbg, Zbh, Zbi, Zbj, Zbk, Zbl, Zbm, Zbn, Zbo, Zbp, Zbq, Zbr, Zbs, Zbt, Zbu, Zbv, Zbw, Zbx, Zby, Zbz, Zb0, Zb1, Zb2, decide_true, decide_false, Zb3, Zb4, Zb5, Zb6, Zb7, Zb8, Zb9, Zca, Zcb, Zcc, Zcd, beq_self_eq_true, cond_true, cond_false, if_false, if_true, reduceIte, reduceCtorEq, not_true_eq_false, not_false_eq_true, true_and, and_true, forall_const, false_and, and_false, implies_true, Zce, Zcf, Zcg, Zch, Zci]
  refine CallQ.of _ (fun h => (db (hfd (by simp only [Bool.or_eq_false_iff, Bool.not_eq_false'] at h; exact h.1)).2).up) ?_
  simp (disch := first | assumption | exact Ne.symm (by assumption) | omega) only [hF1, hF2, ↓ZD, ZU, ne_eq, Zaa, Zab, false_implies, Zac, Zad, Zae, Zaf, Zag, Zah, Zai, Zaj, Zak, Zal, Zam, Zan, Zao, Zap, Zaq, Zar, Zas, Zat, Zau, Zav, Zaw, Zax, Zay, Zaz, Za0, Za1, Za2, Za3, Za4, Za5, Za6, Za7, Za8, Za9, Zba, Zbb, Zbc, Zbd, Zbe, Zbf, Zbg, Zbh, Zbi, Zbj, Zbk, Zbl, Zbm, Zbn, Zbo, Zbp, Zbq, Zbr, Zbs, Zbt, Zbu, Zbv, Zbw, Zbx, Zby, Zbz, Zb0, Zb1, Zb2, decide_true, decide_false, Zb3, Zb4, Zb5, Zb6, Zb7, Zb8, Zb9, Zca, Zcb, Zcc, Zcd, beq_self_eq_true, cond_true, cond_false, if_false, if_true, reduceIte, reduceCtorEq, not_true_eq_false, not_false_eq_true, true_and, and_true, forall_const, false_and, and_false, implies_true, Zce, Zcf, Zcg, Zch, Zci]
  refine fun h => ?_
  simp only [Bool.or_eq_false_iff, Bool.not_eq_false'] at h
  obtain ⟨m1, m2, w1, w2⟩ := fit_all h.1.1
  refine NewB.of fun b3 hb3 hF3 => ?_
  simp only [List.forall_mem_cons] at hb3
  obtain ⟨_, _, _⟩ := hb3
  simp (disch := first | assumption | exact Ne.symm (by assumption) | omega) only [hF1, hF2, hF3, ↓ZD, ZU, ne_eq, Zaa, Zab, false_implies, Zac, Zad, Zae, Zaf, Zag, Zah, Zai, Zaj, Zak, Zal, Zam, Zan, Zao, Zap, Zaq, Zar, Zas, Zat, Zau, Zav, Zaw, Zax, Zay, Zaz, Za0, Za1, Za2, Za3, Za4, Za5, Za6, Za7, Za8, Za9, Zba, Zbb, Zbc, Zbd, Zbe, Zbf, Zbg, Zbh, Zbi, Zbj, Zbk, Zbl, Zbm, Zbn, Zbo, Zbp, Zbq, Zbr, Zbs, Zbt, Zbu, Zbv, Zbw, Zbx, Zby, Zbz, Zb0, Zb1, Zb2, decide_true, decide_false, Zb3, Zb4, Zb5, Zb6, Zb7, Zb8, Zb9, Zca, Zcb, Zcc, Zcd, beq_self_eq_true, cond_true, cond_false, if_false, if_true, reduceIte, reduceCtorEq, not_true_eq_false, not_false_eq_true, true_and, and_true, forall_const, false_and, and_false, implies_true, Zce, Zcf, Zcg, Zch, Zci]
  refine NewB.of fun b4 hb4 hF4 => ?_
  simp only [List.forall_mem_cons] at hb4
  obtain ⟨_, _, _, _⟩ := hb4
  simp (disch := first | assumption | exact Ne.symm (by assumption) | omega) only [hF1, hF2, hF3, hF4, ↓ZD, ZU, ne_eq, Zaa, Zab, false_implies, Zac, Zad, Zae, Zaf, Zag, Zah, Zai, Zaj, Zak, Zal, Zam, Zan, Zao, Zap, Zaq, Zar, Zas, Zat, Zau, Zav, Zaw, Zax, Zay, Zaz, Za0, Za1, Za2, Za3, Za4, Za5, Za6, Za7, Za8, Za9, Zba, Zbb, Zbc, Zbd, Zbe, Zbf, Zbg, Zbh, Zbi, Zbj, Zbk, Zbl, Zbm, Zbn, Zbo, Zbp, Zbq, Zbr, Zbs, Zbt, Zbu, Zbv, Zbw, Zbx, Zby, Zbz, Zb0, Zb1, Zb2, decide_true, decide_false, Zb3, Zb4, Zb5, Zb6, Zb7, Zb8, Zb9, Zca, Zcb, Zcc, Zcd, beq_self_eq_true, cond_true, cond_false, if_false, if_true, reduceIte, reduceCtorEq, not_true_eq_false, not_false_eq_true, true_and, and_true, forall_const, false_and, and_false, implies_true, Zce, Zcf, Zcg, Zch, Zci]
  refine NewB.of fun b5 hb5 hF5 => ?_
  simp only [List.forall_mem_cons] at hb5
  obtain ⟨_, _, _, _, _⟩ := hb5
  simp (disch := first | assumption | exact Ne.symm (by assumption) | omega) only [hF1, hF2, hF3, hF4, hF5, ↓ZD, ZU, ne_eq, Zaa, Zab, false_implies, Zac, Zad, Zae, Zaf, Zag, Zah, Zai, Zaj, Zak, Zal, Zam, Zan, Zao, Zap, Zaq, Zar, Zas, Zat, Zau, Zav, Zaw, Zax, Zay, Zaz, Za0, Za1, Za2, Za3, Za4, Za5, Za6, Za7, Za8, Za9, Zba, Zbb, Zbc, Zbd, Zbe, Zbf, Zbg, Zbh, Zbi, Zbj, Zbk, Zbl, Zbm, Zbn, Zbo, Zbp, Zbq, Zbr, Zbs, Zbt, Zbu, Zbv, Zbw, Zbx, Zby, Zbz, Zb0, Zb1, Zb2, decide_true, decide_false, Zb3, Zb4, Zb5, Zb6, Zb7, Zb8, Zb9, Zca, Zcb, Zcc, Zcd, beq_self_eq_true, cond_true, cond_false, if_false, if_true, reduceIte, reduceCtorEq, not_true_eq_false, not_false_eq_true, true_and, and_true, forall_const, false_and, and_false, implies_true, Zce, Zcf, Zcg, Zch, Zci]
  refine NewB.of fun b6 hb6 hF6 => ?_
  simp only [List.forall_mem_cons] at hb6
  obtain ⟨_, _, _, _, _, _⟩ := hb6
  simp (disch := first | assumption | exact Ne.symm (by assumption) | omega) only [hF1, hF2, hF3, hF4, hF5, hF6, ↓ZD, ZU, ne_eq, Zaa, Zab, false_implies, Zac, Zad, Zae, Zaf, Zag, Zah, Zai, Zaj, Zak, Zal, Zam, Zan, Zao, Zap, Zaq, Zar, Zas, Zat, Zau, Zav, Zaw, Zax, Zay, Zaz, Za0, Za1, Za2, Za3, Za4, Za5, Za6, Za7, Za8, Za9, Zba, Zbb, Zbc, Zbd, Zbe, Zbf, Zbg, Zbh, Zbi, Zbj, Zbk, Zbl, Zbm, Zbn, Zbo, Zbp, Zbq, Zbr, Zbs, Zbt, Zbu, Zbv, Zbw, Zbx, Zby, Zbz, Zb0, Zb1, Zb2, decide_true, decide_false, Zb3, Zb4, Zb5, Zb6, Zb7, Zb8, Zb9, Zca, Zcb, Zcc, Zcd, beq_self_eq_true, cond_true, cond_false, if_false, if_true, reduceIte, reduceCtorEq, not_true_eq_false, not_false_eq_true, true_and, and_true, forall_const, false_and, and_false, implies_true, Zce, Zcf, Zcg, Zch, Zci]
  have rx := rep_rec1 (G := rdObj F [(b6, .cells #[.int .i64 8, .string (bs []), .slice none 0 0, .slice (some ⟨b5, 0, none⟩) 1 1] 25 (0, 0)), (b5, .cells #[.string (bs [110]), .int .i64 u1, .string (bs u2), .slice u3 u4 u5, .slice u6 u7 u8, .bool y] 30 (0, 0)), (b4, .cells #[.int .i64 8, .string (bs []), .slice none 0 0, .slice (some ⟨b3, 0, none⟩) 1 1] 25 (0, 0)), (b3, .cells #[.string (bs [110]), .int .i64 v1, .string (bs v2), .slice v3 v4 v5, .slice v6 v7 v8, .bool x] 30 (0, 0)), (b2, .cells #[.int .i64 u1, .string (bs u2), .slice u3 u4 u5, .slice u6 u7 u8] 25 (0, 0)), (b1, .cells #[.int .i64 v1, .string (bs v2), .slice v3 v4 v5, .slice v6 v7 v8] 25 (0, 0))]) (b := b3) (x := x) (cs := [.int .i64 v1, .string (bs v2), .slice v3 v4 v5, .slice v6 v7 v8]) (by simp (disch := first | assumption | exact Ne.symm (by assumption) | omega) only [↓ZD, ZU, ne_eq, Zaa, Zab, false_implies, Zac, Zad, Zae, Zaf, Zag, Zah, Zai, Zaj, Zak, Zal, Zam, Zan, Zao, Zap, Zaq, Zar, Zas, Zat, Zau, Zav, Zaw, Zax, Zay, Zaz, Za0, Za1, Za2, Za3, Za4, Za5, Za6, Za7, Za8, Za9, Zba, Zbb, Zbc, Zbd, Zbe, Zbf, Zbg, Zbh, Zbi, Zbj, Zbk, Zbl, Zbm, Zbn, Zbo, Zbp, Zbq, Zbr, Zbs, Zbt, Zbu, Zbv, Zbw, Zbx, Zby, Zbz, Zb0, Zb1, Zb2, decide_true, decide_false, Zb3, Zb4, Zb5, Zb6, Zb7, Zb8, Zb9, Zca, Zcb, Zcc, Zcd, beq_self_eq_true, cond_true, cond_false, if_false, if_true, reduceIte, reduceCtorEq, not_true_eq_false, not_false_eq_true, true_and, and_true, forall_const, false_and, and_false, implies_true, Zce, Zcf, Zcg, Zch, Zci]) (hA.mono le_up)
  have ry := rep_rec1 (G := rdObj F [(b6, .cells #[.int .i64 8, .string (bs []), .slice none 0 0, .slice (some ⟨b5, 0, none⟩) 1 1] 25 (0, 0)), (b5, .cells #[.string (bs [110]), .int .i64 u1, .string (bs u2), .slice u3 u4 u5, .slice u6 u7 u8, .bool y] 30 (0, 0)), (b4, .cells #[.int .i64 8, .string (bs []), .slice none 0 0, .slice (some ⟨b3, 0, none⟩) 1 1] 25 (0, 0)), (b3, .cells #[.string (bs [110]), .int .i64 v1, .string (bs v2), .slice v3 v4 v5, .slice v6 v7 v8, .bool x] 30 (0, 0)), (b2, .cells #[.int .i64 u1, .string (bs u2), .slice u3 u4 u5, .slice u6 u7 u8] 25 (0, 0)), (b1, .cells #[.int .i64 v1, .string (bs v2), .slice v3 v4 v5, .slice v6 v7 v8] 25 (0, 0))]) (b := b5) (x := y) (cs := [.int .i64 u1, .string (bs u2), .slice u3 u4 u5, .slice u6 u7 u8]) (by simp (disch := first | assumption | exact Ne.symm (by assumption) | omega) only [↓ZD, ZU, ne_eq, Zaa, Zab, false_implies, Zac, Zad, Zae, Zaf, Zag, Zah, Zai, Zaj, Zak, Zal, Zam, Zan, Zao, Zap, Zaq, Zar, Zas, Zat, Zau, Zav, Zaw, Zax, Zay, Zaz, Za0, Za1, Za2, Za3, Za4, Za5, Za6, Za7, Za8, Za9, Zba, Zbb, Zbc, Zbd, Zbe, Zbf, Zbg, Zbh, Zbi, Zbj, Zbk, Zbl, Zbm, Zbn, Zbo, Zbp, Zbq, Zbr, Zbs, Zbt, Zbu, Zbv, Zbw, Zbx, Zby, Zbz, Zb0, Zb1, Zb2, decide_true, decide_false, Zb3, Zb4, Zb5, Zb6, Zb7, Zb8, Zb9, Zca, Zcb, Zcc, Zcd, beq_self_eq_true, cond_true, cond_false, if_false, if_true, reduceIte, reduceCtorEq, not_true_eq_false, not_false_eq_true, true_and, and_true, forall_const, false_and, and_false, implies_true, Zce, Zcf, Zcg, Zch, Zci]) (hB.mono le_up)
  refine CallQ.of _ (below_pure _ rx _ _ ry) ?_
  simp (disch := first | assumption | exact Ne.symm (by assumption) | omega) only [hF1, hF2, hF3, hF4, hF5, hF6, below_rec1, ↓ZD, ZU, ne_eq, Zaa, Zab, false_implies, Zac, Zad, Zae, Zaf, Zag, Zah, Zai, Zaj, Zak, Zal, Zam, Zan, Zao, Zap, Zaq, Zar, Zas, Zat, Zau, Zav, Zaw, Zax, Zay, Zaz, Za0, Za1, Za2, Za3, Za4, Za5, Za6, Za7, Za8, Za9, Zba, Zbb, Zbc, Zbd, Zbe, Zbf, Zbg, Zbh, Zbi, Zbj, Zbk, Zbl, Zbm, Zbn, Zbo, Zbp, Zbq, Zbr, Zbs, Zbt, Zbu, Zbv, Zbw, Zbx, Zby, Zbz, Zb0, Zb1, Zb2, decide_true, decide_false, Zb3, Zb4, Zb5, Zb6, Zb7, Zb8, Zb9, Zca, Zcb, Zcc, Zcd, beq_self_eq_true, cond_true, cond_false, if_false, if_true, reduceIte, reduceCtorEq, not_true_eq_false, not_false_eq_true, true_and, and_true, forall_const, false_and, and_false, implies_true, Zce, Zcf, Zcg, Zch, Zci]
  refine CallQ.of _ bab.up ?_
  simp (disch := first | assumption | exact Ne.symm (by assumption) | omega) only [hF1, hF2, hF3, hF4, hF5, hF6, bne_self_eq_false, ↓ZD, ZU, ne_eq, Zaa, Zab, false_implies, Zac, Zad, Zae, Zaf, Zag, Zah, Zai, Zaj, Zak, Zal, Zam, Zan, Zao, Zap, Zaq, Zar, Zas, Zat, Zau, Zav, Zaw, Zax, Zay, Zaz, Za0, Za1, Za2, Za3, Za4, Za5, Za6, Za7, Za8, Za9, Zba, Zbb, Zbc, Zbd, Zbe, Zbf, Zbg, Zbh, Zbi, Zbj, Zbk, Zbl, Zbm, Zbn, Zbo, Zbp, Zbq, Zbr, Zbs, Zbt, Zbu, Zbv, Zbw, Zbx, Zby, Zbz, Zb0, Zb1, Zb2, decide_true, decide_false, Zb3, Zb4, Zb5, Zb6, Zb7, Zb8, Zb9, Zca, Zcb, Zcc, Zcd, beq_self_eq_true, cond_true, cond_false, if_false, if_true, reduceIte, reduceCtorEq, not_true_eq_false, not_false_eq_true, true_and, and_true, forall_const, false_and, and_false, implies_true, Zce, Zcf, Zcg, Zch, Zci]
  refine CallQ.of _ (by first | exact below_pure _ rx _ _ (rep0 _ 8 (by omega)) | exact fun _ => below_pure _ rx _ _ (rep0 _ 8 (by omega))) ?_
  simp (disch := first | assumption | exact Ne.symm (by assumption) | omega) only [hF1, hF2, hF3, hF4, hF5, hF6, below_rec1_l, ↓ZD, ZU, ne_eq, Zaa, Zab, false_implies, Zac, Zad, Zae, Zaf, Zag, Zah, Zai, Zaj, Zak, Zal, Zam, Zan, Zao, Zap, Zaq, Zar, Zas, Zat, Zau, Zav, Zaw, Zax, Zay, Zaz, Za0, Za1, Za2, Za3, Za4, Za5, Za6, Za7, Za8, Za9, Zba, Zbb, Zbc, Zbd, Zbe, Zbf, Zbg, Zbh, Zbi, Zbj, Zbk, Zbl, Zbm, Zbn, Zbo, Zbp, Zbq, Zbr, Zbs, Zbt, Zbu, Zbv, Zbw, Zbx, Zby, Zbz, Zb0, Zb1, Zb2, decide_true, decide_false, Zb3, Zb4, Zb5, Zb6, Zb7, Zb8, Zb9, Zca, Zcb, Zcc, Zcd, beq_self_eq_true, cond_true, cond_false, if_false, if_true, reduceIte, reduceCtorEq, not_true_eq_false, not_false_eq_true, true_and, and_true, forall_const, false_and, and_false, implies_true, Zce, Zcf, Zcg, Zch, Zci]
  refine CallQ.of _ (by first | exact below_pure _ (rep0 _ 8 (by omega)) _ _ rx | exact fun _ => below_pure _ (rep0 _ 8 (by omega)) _ _ rx) ?_
  simp (disch := first | assumption | exact Ne.symm (by assumption) | omega) only [hF1, hF2, hF3, hF4, hF5, hF6, below_rec1_r, ↓ZD, ZU, ne_eq, Zaa, Zab, false_implies, Zac, Zad, Zae, Zaf, Zag, Zah, Zai, Zaj, Zak, Zal, Zam, Zan, Zao, Zap, Zaq, Zar, Zas, Zat, Zau, Zav, Zaw, Zax, Zay, Zaz, Za0, Za1, Za2, Za3, Za4, Za5, Za6, Za7, Za8, Za9, Zba, Zbb, Zbc, Zbd, Zbe, Zbf, Zbg, Zbh, Zbi, Zbj, Zbk, Zbl, Zbm, Zbn, Zbo, Zbp, Zbq, Zbr, Zbs, Zbt, Zbu, Zbv, Zbw, Zbx, Zby, Zbz, Zb0, Zb1, Zb2, decide_true, decide_false, Zb3, Zb4, Zb5, Zb6, Zb7, Zb8, Zb9, Zca, Zcb, Zcc, Zcd, beq_self_eq_true, cond_true, cond_false, if_false, if_true, reduceIte, reduceCtorEq, not_true_eq_false, not_false_eq_true, true_and, and_true, forall_const, false_and, and_false, implies_true, Zce, Zcf, Zcg, Zch, Zci]
  have hcd : (!(below (rec1 a x) (rec1 b y) == (below a b && (!x || y)))) = false := by rw [below_rec1]; simp
  refine ⟨fun h => (by rw [hcd] at h; cases h), fun _ => ?_⟩
  have hj := join_rec1 a b x y
  refine CallE.news ((k1 w1).up le_up) ?_
  rintro v1' H1 ⟨cs1, er1, rfl, hp1⟩ hf1 hd1 hn1
  obtain ⟨q1, q2, q3, q4, q5, q6, q7, q8, rfl⟩ := hp1.form
  simp only [List.forall_mem_cons] at hd1
  obtain ⟨h16, h15, h14, h13, h12, h11, -⟩ := hd1
  simp (disch := first | assumption | exact Ne.symm (by assumption) | omega) only [hF1, hF2, hF3, hF4, hF5, hF6, ↓ZD, ZU, ne_eq, Zaa, Zab, false_implies, Zac, Zad, Zae, Zaf, Zag, Zah, Zai, Zaj, Zak, Zal, Zam, Zan, Zao, Zap, Zaq, Zar, Zas, Zat, Zau, Zav, Zaw, Zax, Zay, Zaz, Za0, Za1, Za2, Za3, Za4, Za5, Za6, Za7, Za8, Za9, Zba, Zbb, Zbc, Zbd, Zbe, Zbf, Zbg, Zbh, Zbi, Zbj, Zbk, Zbl, Zbm, Zbn, Zbo, Zbp, Zbq, Zbr, Zbs, Zbt, Zbu, Zbv, Zbw, Zbx, Zby, Zbz, Zb0, Zb1, Zb2, decide_true, decide_false, Zb3, Zb4, Zb5, Zb6, Zb7, Zb8, Zb9, Zca, Zcb, Zcc, Zcd, beq_self_eq_true, cond_true, cond_false, if_false, if_true, reduceIte, reduceCtorEq, not_true_eq_false, not_false_eq_true, true_and, and_true, forall_const, false_and, and_false, implies_true, Zce, Zcf, Zcg, Zch, Zci]
  refine NewB.of fun b7 hb7 hF7 => ?_
  simp only [List.forall_mem_cons] at hb7
  obtain ⟨_, _, _, _, _, _, hb7⟩ := hb7
  have hup7 : ∀ o, upd H1 b7 o = H1 := fun o => upd_new hb7
  simp (disch := first | assumption | exact Ne.symm (by assumption) | omega) only [hF1, hF2, hF3, hF4, hF5, hF6, hF7, hup7, ↓ZD, ZU, ne_eq, Zaa, Zab, false_implies, Zac, Zad, Zae, Zaf, Zag, Zah, Zai, Zaj, Zak, Zal, Zam, Zan, Zao, Zap, Zaq, Zar, Zas, Zat, Zau, Zav, Zaw, Zax, Zay, Zaz, Za0, Za1, Za2, Za3, Za4, Za5, Za6, Za7, Za8, Za9, Zba, Zbb, Zbc, Zbd, Zbe, Zbf, Zbg, Zbh, Zbi, Zbj, Zbk, Zbl, Zbm, Zbn, Zbo, Zbp, Zbq, Zbr, Zbs, Zbt, Zbu, Zbv, Zbw, Zbx, Zby, Zbz, Zb0, Zb1, Zb2, decide_true, decide_false, Zb3, Zb4, Zb5, Zb6, Zb7, Zb8, Zb9, Zca, Zcb, Zcc, Zcd, beq_self_eq_true, cond_true, cond_false, if_false, if_true, reduceIte, reduceCtorEq, not_true_eq_false, not_false_eq_true, true_and, and_true, forall_const, false_and, and_false, implies_true, Zce, Zcf, Zcg, Zch, Zci]
  have rx7 := rep_rec1 (G := rdObj F ((b7, .cells #[.int .i64 q1, .string (bs q2), .slice q3 q4 q5, .slice q6 q7 q8] 25 (0, 0)) :: (b6, .cells #[.int .i64 8, .string (bs []), .slice none 0 0, .slice (some ⟨b5, 0, none⟩) 1 1] 25 (0, 0)) :: (b5, .cells #[.string (bs [110]), .int .i64 u1, .string (bs u2), .slice u3 u4 u5, .slice u6 u7 u8, .bool y] 30 (0, 0)) :: (b4, .cells #[.int .i64 8, .string (bs []), .slice none 0 0, .slice (some ⟨b3, 0, none⟩) 1 1] 25 (0, 0)) :: (b3, .cells #[.string (bs [110]), .int .i64 v1, .string (bs v2), .slice v3 v4 v5, .slice v6 v7 v8, .bool x] 30 (0, 0)) :: (b2, .cells #[.int .i64 u1, .string (bs u2), .slice u3 u4 u5, .slice u6 u7 u8] 25 (0, 0)) :: (b1, .cells #[.int .i64 v1, .string (bs v2), .slice v3 v4 v5, .slice v6 v7 v8] 25 (0, 0)) :: H1)) (b := b3) (x := x) (cs := [.int .i64 v1, .string (bs v2), .slice v3 v4 v5, .slice v6 v7 v8]) (by simp (disch := first | assumption | exact Ne.symm (by assumption) | omega) only [↓ZD, ZU, ne_eq, Zaa, Zab, false_implies, Zac, Zad, Zae, Zaf, Zag, Zah, Zai, Zaj, Zak, Zal, Zam, Zan, Zao, Zap, Zaq, Zar, Zas, Zat, Zau, Zav, Zaw, Zax, Zay, Zaz, Za0, Za1, Za2, Za3, Za4, Za5, Za6, Za7, Za8, Za9, Zba, Zbb, Zbc, Zbd, Zbe, Zbf, Zbg, Zbh, Zbi, Zbj, Zbk, Zbl, Zbm, Zbn, Zbo, Zbp, Zbq, Zbr, Zbs, Zbt, Zbu, Zbv, Zbw, Zbx, Zby, Zbz, Zb0, Zb1, Zb2, decide_true, decide_false, Zb3, Zb4, Zb5, Zb6, Zb7, Zb8, Zb9, Zca, Zcb, Zcc, Zcd, beq_self_eq_true, cond_true, cond_false, if_false, if_true, reduceIte, reduceCtorEq, not_true_eq_false, not_false_eq_true, true_and, and_true, forall_const, false_and, and_false, implies_true, Zce, Zcf, Zcg, Zch, Zci]) (hA.mono le_up)
  have ry7 := rep_rec1 (G := rdObj F ((b7, .cells #[.int .i64 q1, .string (bs q2), .slice q3 q4 q5, .slice q6 q7 q8] 25 (0, 0)) :: (b6, .cells #[.int .i64 8, .string (bs []), .slice none 0 0, .slice (some ⟨b5, 0, none⟩) 1 1] 25 (0, 0)) :: (b5, .cells #[.string (bs [110]), .int .i64 u1, .string (bs u2), .slice u3 u4 u5, .slice u6 u7 u8, .bool y] 30 (0, 0)) :: (b4, .cells #[.int .i64 8, .string (bs []), .slice none 0 0, .slice (some ⟨b3, 0, none⟩) 1 1] 25 (0, 0)) :: (b3, .cells #[.string (bs [110]), .int .i64 v1, .string (bs v2), .slice v3 v4 v5, .slice v6 v7 v8, .bool x] 30 (0, 0)) :: (b2, .cells #[.int .i64 u1, .string (bs u2), .slice u3 u4 u5, .slice u6 u7 u8] 25 (0, 0)) :: (b1, .cells #[.int .i64 v1, .string (bs v2), .slice v3 v4 v5, .slice v6 v7 v8] 25 (0, 0)) :: H1)) (b := b5) (x := y) (cs := [.int .i64 u1, .string (bs u2), .slice u3 u4 u5, .slice u6 u7 u8]) (by simp (disch := first | assumption | exact Ne.symm (by assumption) | omega) only [↓ZD, ZU, ne_eq, Zaa, Zab, false_implies, Zac, Zad, Zae, Zaf, Zag, Zah, Zai, Zaj, Zak, Zal, Zam, Zan, Zao, Zap, Zaq, Zar, Zas, Zat, Zau, Zav, Zaw, Zax, Zay, Zaz, Za0, Za1, Za2, Za3, Za4, Za5, Za6, Za7, Za8, Za9, Zba, Zbb, Zbc, Zbd, Zbe, Zbf, Zbg, Zbh, Zbi, Zbj, Zbk, Zbl, Zbm, Zbn, Zbo, Zbp, Zbq, Zbr, Zbs, Zbt, Zbu, Zbv, Zbw, Zbx, Zby, Zbz, Zb0, Zb1, Zb2, decide_true, decide_false, Zb3, Zb4, Zb5, Zb6, Zb7, Zb8, Zb9, Zca, Zcb, Zcc, Zcd, beq_self_eq_true, cond_true, cond_false, if_false, if_true, reduceIte, reduceCtorEq, not_true_eq_false, not_false_eq_true, true_and, and_true, forall_const, false_and, and_false, implies_true, Zce, Zcf, Zcg, Zch, Zci]) (hB.mono le_up)
  refine CallE.news (join_does _ rx7 _ _ (-1) ry7 (few_rec1 x w1)) ?_
  rintro v2' H2 ⟨cs2, er2, rfl, hp2⟩ hf2 hd2 hn2
  obtain ⟨p1, p2, p3, p4, p5, p6, p7, p8, rfl⟩ := hp2.form
  simp only [List.forall_mem_cons] at hd2
  obtain ⟨h27, h26, h25, h24, h23, h22, h21, h2x⟩ := hd2
  simp (disch := first | assumption | exact Ne.symm (by assumption) | omega) only [hF1, hF2, hF3, hF4, hF5, hF6, hF7, ↓ZD, ZU, ne_eq, Zaa, Zab, false_implies, Zac, Zad, Zae, Zaf, Zag, Zah, Zai, Zaj, Zak, Zal, Zam, Zan, Zao, Zap, Zaq, Zar, Zas, Zat, Zau, Zav, Zaw, Zax, Zay, Zaz, Za0, Za1, Za2, Za3, Za4, Za5, Za6, Za7, Za8, Za9, Zba, Zbb, Zbc, Zbd, Zbe, Zbf, Zbg, Zbh, Zbi, Zbj, Zbk, Zbl, Zbm, Zbn, Zbo, Zbp, Zbq, Zbr, Zbs, Zbt, Zbu, Zbv, Zbw, Zbx, Zby, Zbz, Zb0, Zb1, Zb2, decide_true, decide_false, Zb3, Zb4, Zb5, Zb6, Zb7, Zb8, Zb9, Zca, Zcb, Zcc, Zcd, beq_self_eq_true, cond_true, cond_false, if_false, if_true, reduceIte, reduceCtorEq, not_true_eq_false, not_false_eq_true, true_and, and_true, forall_const, false_and, and_false, implies_true, Zce, Zcf, Zcg, Zch, Zci]
  refine NewB.of fun b8 hb8 hF8 => ?_
  simp only [List.forall_mem_cons] at hb8
  obtain ⟨_, _, _, _, _, _, _, hb8⟩ := hb8
  have hup8 : ∀ o, upd (H1 ++ H2) b8 o = H1 ++ H2 := fun o => upd_new hb8
  cases j1 : join a b with
  | none =>
    rw [j1] at hp1 hj
    simp only at hj
    rw [hj] at hp2
    obtain ⟨c1, rfl, rfl⟩ := hp1
    obtain ⟨c2, rfl, rfl⟩ := hp2
    unfold zT at c1 c2
    simp only [List.cons.injEq, Value.int.injEq, Value.string.injEq, Value.slice.injEq, true_and, and_true] at c1 c2
    obtain ⟨rfl, -, ⟨rfl, rfl, rfl⟩, rfl, rfl, rfl⟩ := c1
    obtain ⟨rfl, -, ⟨rfl, rfl, rfl⟩, rfl, rfl, rfl⟩ := c2
    have hbq : ∀ n b, beqV n undef (.bool b) = some (False, .bool false) := fun _ _ => rfl
    have hlu : ∀ H n, ldV F H n true undef = some (False, undef) := fun _ _ => rfl
    have hdd : ((30 : Int) != 30) = false := by decide
    have hdd2 : ((30 : Int) != 0) = true := by decide
    simp (disch := first | assumption | exact Ne.symm (by assumption) | omega) only [hF1, hF2, hF3, hF4, hF5, hF6, hF7, hF8, hup8, hdd, hdd2, hbq, hlu, ↓ZD, ZU, ne_eq, Zaa, Zab, false_implies, Zac, Zad, Zae, Zaf, Zag, Zah, Zai, Zaj, Zak, Zal, Zam, Zan, Zao, Zap, Zaq, Zar, Zas, Zat, Zau, Zav, Zaw, Zax, Zay, Zaz, Za0, Za1, Za2, Za3, Za4, Za5, Za6, Za7, Za8, Za9, Zba, Zbb, Zbc, Zbd, Zbe, Zbf, Zbg, Zbh, Zbi, Zbj, Zbk, Zbl, Zbm, Zbn, Zbo, Zbp, Zbq, Zbr, Zbs, Zbt, Zbu, Zbv, Zbw, Zbx, Zby, Zbz, Zb0, Zb1, Zb2, decide_true, decide_false, Zb3, Zb4, Zb5, Zb6, Zb7, Zb8, Zb9, Zca, Zcb, Zcc, Zcd, beq_self_eq_true, cond_true, cond_false, if_false, if_true, reduceIte, reduceCtorEq, not_true_eq_false, not_false_eq_true, true_and, and_true, forall_const, false_and, and_false, implies_true, Zce, Zcf, Zcg, Zch, Zci]
    refine CallQ.of (.bool false) trivial ?_
    simp (disch := first | assumption | exact Ne.symm (by assumption) | omega) only [hF1, hF2, hF3, hF4, hF5, hF6, hF7, hF8, hup8, hdd, hdd2, hbq, hlu, ↓ZD, ZU, ne_eq, Zaa, Zab, false_implies, Zac, Zad, Zae, Zaf, Zag, Zah, Zai, Zaj, Zak, Zal, Zam, Zan, Zao, Zap, Zaq, Zar, Zas, Zat, Zau, Zav, Zaw, Zax, Zay, Zaz, Za0, Za1, Za2, Za3, Za4, Za5, Za6, Za7, Za8, Za9, Zba, Zbb, Zbc, Zbd, Zbe, Zbf, Zbg, Zbh, Zbi, Zbj, Zbk, Zbl, Zbm, Zbn, Zbo, Zbp, Zbq, Zbr, Zbs, Zbt, Zbu, Zbv, Zbw, Zbx, Zby, Zbz, Zb0, Zb1, Zb2, decide_true, decide_false, Zb3, Zb4, Zb5, Zb6, Zb7, Zb8, Zb9, Zca, Zcb, Zcc, Zcd, beq_self_eq_true, cond_true, cond_false, if_false, if_true, reduceIte, reduceCtorEq, not_true_eq_false, not_false_eq_true, true_and, and_true, forall_const, false_and, and_false, implies_true, Zce, Zcf, Zcg, Zch, Zci]
  | some t =>
    rw [j1] at hp1 hj
    obtain ⟨u, hj, hs⟩ := hj
    rw [hj] at hp2
    obtain ⟨rfl, rt, ot⟩ := hp1
    obtain ⟨rfl, ru, ou⟩ := hp2
    obtain ⟨a1', c1', a2', c2', c, hce, hcl, hcr⟩ := rec1_out ru
    simp only [List.cons.injEq, Value.int.injEq, Value.string.injEq, Value.slice.injEq, true_and, and_true] at hce
    obtain ⟨rfl, hp2s, ⟨rfl, rfl, rfl⟩, rfl, rfl, rfl⟩ := hce
    have hup : ∀ bb o, rdObj F (H1 ++ H2) bb = some o → rdObj F ((b8, .cells #[.int .i64 8, .string (bs p2), .slice p3 0 p5, .slice p6 1 p8] 25 (0, 0)) :: (b7, .cells #[.int .i64 q1, .string (bs q2), .slice q3 q4 q5, .slice q6 q7 q8] 25 (0, 0)) :: (b6, .cells #[.int .i64 8, .string (bs []), .slice none 0 0, .slice (some ⟨b5, 0, none⟩) 1 1] 25 (0, 0)) :: (b5, .cells #[.string (bs [110]), .int .i64 u1, .string (bs u2), .slice u3 u4 u5, .slice u6 u7 u8, .bool y] 30 (0, 0)) :: (b4, .cells #[.int .i64 8, .string (bs []), .slice none 0 0, .slice (some ⟨b3, 0, none⟩) 1 1] 25 (0, 0)) :: (b3, .cells #[.string (bs [110]), .int .i64 v1, .string (bs v2), .slice v3 v4 v5, .slice v6 v7 v8, .bool x] 30 (0, 0)) :: (b2, .cells #[.int .i64 u1, .string (bs u2), .slice u3 u4 u5, .slice u6 u7 u8] 25 (0, 0)) :: (b1, .cells #[.int .i64 v1, .string (bs v2), .slice v3 v4 v5, .slice v6 v7 v8] 25 (0, 0)) :: (H1 ++ H2)) bb = some o := fun bb o h =>
      rdObj_app (A := [_, _, _, _, _, _, _, _]) (by
        simp only [List.forall_mem_cons]
        refine ⟨hb8, fun e he => ?_, fun e he => ?_, fun e he => ?_, fun e he => ?_, fun e he => ?_, fun e he => ?_, fun e he => ?_, fun e he => by cases he⟩ <;> rcases List.mem_append.1 he with h | h <;> first | exact hb7 e h | exact h27 e h | exact h16 e h | exact h26 e h | exact h15 e h | exact h25 e h | exact h14 e h | exact h24 e h | exact h13 e h | exact h23 e h | exact h12 e h | exact h22 e h | exact h11 e h | exact h21 e h) h
    have g : ∀ bb o, rdObj (rdObj F ((b7, .cells #[.int .i64 q1, .string (bs q2), .slice q3 q4 q5, .slice q6 q7 q8] 25 (0, 0)) :: (b6, .cells #[.int .i64 8, .string (bs []), .slice none 0 0, .slice (some ⟨b5, 0, none⟩) 1 1] 25 (0, 0)) :: (b5, .cells #[.string (bs [110]), .int .i64 u1, .string (bs u2), .slice u3 u4 u5, .slice u6 u7 u8, .bool y] 30 (0, 0)) :: (b4, .cells #[.int .i64 8, .string (bs []), .slice none 0 0, .slice (some ⟨b3, 0, none⟩) 1 1] 25 (0, 0)) :: (b3, .cells #[.string (bs [110]), .int .i64 v1, .string (bs v2), .slice v3 v4 v5, .slice v6 v7 v8, .bool x] 30 (0, 0)) :: (b2, .cells #[.int .i64 u1, .string (bs u2), .slice u3 u4 u5, .slice u6 u7 u8] 25 (0, 0)) :: (b1, .cells #[.int .i64 v1, .string (bs v2), .slice v3 v4 v5, .slice v6 v7 v8] 25 (0, 0)) :: H1)) H2 bb = some o → rdObj F ((b8, .cells #[.int .i64 8, .string (bs p2), .slice p3 0 p5, .slice p6 1 p8] 25 (0, 0)) :: (b7, .cells #[.int .i64 q1, .string (bs q2), .slice q3 q4 q5, .slice q6 q7 q8] 25 (0, 0)) :: (b6, .cells #[.int .i64 8, .string (bs []), .slice none 0 0, .slice (some ⟨b5, 0, none⟩) 1 1] 25 (0, 0)) :: (b5, .cells #[.string (bs [110]), .int .i64 u1, .string (bs u2), .slice u3 u4 u5, .slice u6 u7 u8, .bool y] 30 (0, 0)) :: (b4, .cells #[.int .i64 8, .string (bs []), .slice none 0 0, .slice (some ⟨b3, 0, none⟩) 1 1] 25 (0, 0)) :: (b3, .cells #[.string (bs [110]), .int .i64 v1, .string (bs v2), .slice v3 v4 v5, .slice v6 v7 v8, .bool x] 30 (0, 0)) :: (b2, .cells #[.int .i64 u1, .string (bs u2), .slice u3 u4 u5, .slice u6 u7 u8] 25 (0, 0)) :: (b1, .cells #[.int .i64 v1, .string (bs v2), .slice v3 v4 v5, .slice v6 v7 v8] 25 (0, 0)) :: (H1 ++ H2)) bb = some o := fun bb o h =>
      rdObj_app (A := [_]) (by
        simp only [List.forall_mem_cons]
        exact ⟨⟨by assumption, by assumption, by assumption, by assumption, by assumption, by assumption, by assumption, hb8⟩, fun e he => by cases he⟩) (hn2 bb o h)
    obtain ⟨ba, oa, rfl, hla, hla'⟩ := (hcl.mono g).all
    have rut := hcr.mono g
    have rtt := rt.mono fun bb o h => hup bb o (hext_app bb o h)
    obtain ⟨z1, z2, z3, z4, z5, z6, z7, z8, rfl⟩ := rut.form
    have kk1 := hla 1 4 (by omega) []
    have kk5 := hla' 5 (by omega) []
    rw [ldV_flat] at kk1 kk5
    simp only [List.cons_append, List.nil_append, List.drop_succ_cons, List.drop_zero, List.take_succ_cons, List.take_zero, List.getD_cons_succ, List.getD_cons_zero, Nat.zero_mul, Nat.add_zero] at kk1 kk5
    simp (disch := first | assumption | exact Ne.symm (by assumption) | omega) only [hF1, hF2, hF3, hF4, hF5, hF6, hF7, hF8, hup8, bne_self_eq_false, ↓kk1, ↓kk5, Nat.zero_mul, Nat.add_zero, ↓ZD, ZU, ne_eq, Zaa, Zab, false_implies, Zac, Zad, Zae, Zaf, Zag, Zah, Zai, Zaj, Zak, Zal, Zam, Zan, Zao, Zap, Zaq, Zar, Zas, Zat, Zau, Zav, Zaw, Zax, Zay, Zaz, Za0, Za1, Za2, Za3, Za4, Za5, Za6, Za7, Za8, Za9, Zba, Zbb, Zbc, Zbd, Zbe, Zbf, Zbg, Zbh, Zbi, Zbj, Zbk, Zbl, Zbm, Zbn, Zbo, Zbp, Zbq, Zbr, Zbs, Zbt, Zbu, Zbv, Zbw, Zbx, Zby, Zbz, Zb0, Zb1, Zb2, decide_true, decide_false, Zb3, Zb4, Zb5, Zb6, Zb7, Zb8, Zb9, Zca, Zcb, Zcc, Zcd, beq_self_eq_true, cond_true, cond_false, if_false, if_true, reduceIte, reduceCtorEq, not_true_eq_false, not_false_eq_true, true_and, and_true, forall_const, false_and, and_false, implies_true, Zce, Zcf, Zcg, Zch, Zci]
    refine CallQ.of _ (same_pure _ rut _ _ rtt) ?_
    simp (disch := first | assumption | exact Ne.symm (by assumption) | omega) only [hF1, hF2, hF3, hF4, hF5, hF6, hF7, hF8, hup8, bne_self_eq_false, ↓kk1, ↓kk5, Nat.zero_mul, Nat.add_zero, hs, beq_self_eq_true, ↓ZD, ZU, ne_eq, Zaa, Zab, false_implies, Zac, Zad, Zae, Zaf, Zag, Zah, Zai, Zaj, Zak, Zal, Zam, Zan, Zao, Zap, Zaq, Zar, Zas, Zat, Zau, Zav, Zaw, Zax, Zay, Zaz, Za0, Za1, Za2, Za3, Za4, Za5, Za6, Za7, Za8, Za9, Zba, Zbb, Zbc, Zbd, Zbe, Zbf, Zbg, Zbh, Zbi, Zbj, Zbk, Zbl, Zbm, Zbn, Zbo, Zbp, Zbq, Zbr, Zbs, Zbt, Zbu, Zbv, Zbw, Zbx, Zby, Zbz, Zb0, Zb1, Zb2, decide_true, decide_false, Zb3, Zb4, Zb5, Zb6, Zb7, Zb8, Zb9, Zca, Zcb, Zcc, Zcd, beq_self_eq_true, cond_true, cond_false, if_false, if_true, reduceIte, reduceCtorEq, not_true_eq_false, not_false_eq_true, true_and, and_true, forall_const, false_and, and_false, implies_true, Zce, Zcf, Zcg, Zch, Zci]
end Go.Proofs.Ytdljgcicncegkaa
