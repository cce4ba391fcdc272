/- Layer 11: joins, of the reference. -/
import Derived.Test.YtdljgcicncegkaaK
namespace Go.Proofs.Ytdljgcicncegkaa
open Go Go.Eng
open Int renaming reduceEq → Zaa, cast_ofNat_Int → Zac, reduceToNat → Zbu, toNat_zero → Zbv, toNat_one → Zbw, reduceLE → Zbx, reduceLT → Zby, reduceAdd → Zbz, reduceSub → Zb0, reduceNeg → Zb1, zero_add → Zb2, reducePow → Zcg, reduceNegSucc → Zci
open UInt8 renaming reduceOfNat → Zab
open List renaming toList_toArray → Zad, length_append → Zag, cons_append → Zav, nil_append → Zaw, length_cons → Zax, length_nil → Zay, drop_zero → Zaz, drop_succ_cons → Za0, take_succ_cons → Za1, take_zero → Za2, drop_nil → Za3, take_nil → Za4, append_nil → Za5, all_cons → Za6, all_nil → Za7, isEmpty_cons → Za8, size_toArray → Za9, getElem?_toArray → Zba, getElem?_cons_zero → Zbb, getElem?_cons_succ → Zbc, getD_cons_zero → Zbd, getD_cons_succ → Zbe, mapM_cons → Zbf, mapM_nil → Zbg
open Option renaming getD_some → Zae, getD_none → Zaf, map_some → Zar, map_none → Zas, bind_some → Zat, bind_none → Zau
open Nat renaming le_add_right → Zah, reduceAdd → Zbi, reduceMul → Zbj, reduceMod → Zbk, reduceDiv → Zbl, reduceEqDiff → Zbm, reduceBEq → Zbn, reduceLeDiff → Zbo, reduceSub → Zbp, zero_add → Zbq, add_zero → Zbr, le_refl → Zbs, zero_le → Zbt, reducePow → Zcf, reduceLT → Zch
open Go.Eng renaming subG → Zai, lit → Zaj, isPar → Zak, numb → Zal, Wf → Zam, resV → Zan, oneCell → Zao, isB → Zap, asB → Zaq
open Go.Value renaming cells → Zbh
open Bool renaming and_true → Zb3, true_and → Zb4, and_self → Zb5, not_true → Zb6, not_false → Zb7, and_false → Zb8, or_false → Zb9, or_true → Zca, true_or → Zcb, false_or → Zcc, false_and → Zcd, false_eq_true → Zce
set_option linter.unusedSimpArgs false
set_option linter.unusedVariables false
set_option maxRecDepth 20000

set_option maxHeartbeats 8000000 in
theorem rjoin_does (F : Base) {ca : List Value} {a : Ty} (ha : RepT F ca a) : ∀ cb b d, RepT F cb b → few a d = true → may a = true → may b = true → Does Try.prog F 21 #[.agg ca.toArray, .agg cb.toArray] [] (JoinR F (join a b)) := by
  induction ha with
  | mk k nm a1 c1 a2 c2 es ats g1 g2 hk hn hl1 hl2 hc1 hc2 h1 r1 h2 r2 i1 i2 =>
    intro cb b d hb hf hma hmb
    obtain ⟨m7, mee, mta⟩ := may_elem hma
    obtain ⟨mk0, mk8⟩ := may_kind hma
    have hba2 := rb_pure F (RepT.mk k nm a1 c1 a2 c2 es ats g1 g2 hk hn hl1 hl2 hc1 hc2 h1 r1 h2 r2) _ _ hb hma hmb
    rw [rb_below _ _ hma hmb] at hba2
    have hba3 := rb_pure F hb _ _ (RepT.mk k nm a1 c1 a2 c2 es ats g1 g2 hk hn hl1 hl2 hc1 hc2 h1 r1 h2 r2) hmb hma
    rw [rb_below _ _ hmb hma] at hba3
    have hra := RepT.mk k nm a1 c1 a2 c2 es ats g1 g2 hk hn hl1 hl2 hc1 hc2 h1 r1 h2 r2
    have hrb := hb
    obtain ⟨fl1, fl2, _, fe, fa⟩ := few_len hf
    cases hb with
    | mk k' nm' a1' c1' a2' c2' es' ats' g1' g2' hk' hn' hl1' hl2' hc1' hc2' h1' r1' h2' r2' =>
      obtain ⟨m7', mee', mta'⟩ := may_elem hmb
      generalize hJ : join (.mk k nm es ats) (.mk k' nm' es' ats') = J
      rw [join_eq] at hJ
      generalize hbb : below (.mk k nm es ats) (.mk k' nm' es' ats') = bb at *
      generalize hbc : below (.mk k' nm' es' ats') (.mk k nm es ats) = bc at *
      refine Does.shr (K := fun v H => ∃ Hc, (∀ e ∈ Hc, e ∈ H) ∧ JoinR F _ v Hc) ?_ (fun _ _ h => h)
      refine does_of_svc mixed Try.func21 low21 (Nat.le_of_ble_eq_true rfl) (fun w0 hw0 => ?_)
      simp (disch := first | assumption | exact Ne.symm (by assumption) | omega) only [fu21, ↓ZD, ZU, ne_eq, Zaa, Zab, false_implies, Zac, Zad, Zae, Zaf, Zag, Zah, Zai, Zaj, Zak, Zal, Zam, Zan, Zao, Zap, Zaq, Zar, Zas, Zat, Zau, Zav, Zaw, Zax, Zay, Zaz, Za0, Za1, Za2, Za3, Za4, Za5, Za6, Za7, Za8, Za9, Zba, Zbb, Zbc, Zbd, Zbe, Zbf, Zbg, Zbh, Zbi, Zbj, Zbk, Zbl, Zbm, Zbn, Zbo, Zbp, Zbq, Zbr, Zbs, Zbt, Zbu, Zbv, Zbw, Zbx, Zby, Zbz, Zb0, Zb1, Zb2, decide_true, decide_false, Zb3, Zb4, Zb5, Zb6, Zb7, Zb8, Zb9, Zca, Zcb, Zcc, Zcd, beq_self_eq_true, cond_true, cond_false, if_false, if_true, reduceIte, reduceCtorEq, not_true_eq_false, not_false_eq_true, true_and, and_true, forall_const, false_and, and_false, implies_true, Zce, Zcf, Zcg, Zch, Zci]
      refine NewB.of fun b1 hb1 hF1 => ?_
      simp (disch := first | assumption | exact Ne.symm (by assumption) | omega) only [hF1, ↓ZD, ZU, ne_eq, Zaa, Zab, false_implies, Zac, Zad, Zae, Zaf, Zag, Zah, Zai, Zaj, Zak, Zal, Zam, Zan, Zao, Zap, Zaq, Zar, Zas, Zat, Zau, Zav, Zaw, Zax, Zay, Zaz, Za0, Za1, Za2, Za3, Za4, Za5, Za6, Za7, Za8, Za9, Zba, Zbb, Zbc, Zbd, Zbe, Zbf, Zbg, Zbh, Zbi, Zbj, Zbk, Zbl, Zbm, Zbn, Zbo, Zbp, Zbq, Zbr, Zbs, Zbt, Zbu, Zbv, Zbw, Zbx, Zby, Zbz, Zb0, Zb1, Zb2, decide_true, decide_false, Zb3, Zb4, Zb5, Zb6, Zb7, Zb8, Zb9, Zca, Zcb, Zcc, Zcd, beq_self_eq_true, cond_true, cond_false, if_false, if_true, reduceIte, reduceCtorEq, not_true_eq_false, not_false_eq_true, true_and, and_true, forall_const, false_and, and_false, implies_true, Zce, Zcf, Zcg, Zch, Zci]
      refine NewB.of fun b2 hb2 hF2 => ?_
      simp only [List.forall_mem_cons] at hb2
      simp (disch := first | assumption | exact Ne.symm (by assumption) | omega) only [hF1, hF2, ↓ZD, ZU, ne_eq, Zaa, Zab, false_implies, Zac, Zad, Zae, Zaf, Zag, Zah, Zai, Zaj, Zak, Zal, Zam, Zan, Zao, Zap, Zaq, Zar, Zas, Zat, Zau, Zav, Zaw, Zax, Zay, Zaz, Za0, Za1, Za2, Za3, Za4, Za5, Za6, Za7, Za8, Za9, Zba, Zbb, Zbc, Zbd, Zbe, Zbf, Zbg, Zbh, Zbi, Zbj, Zbk, Zbl, Zbm, Zbn, Zbo, Zbp, Zbq, Zbr, Zbs, Zbt, Zbu, Zbv, Zbw, Zbx, Zby, Zbz, Zb0, Zb1, Zb2, decide_true, decide_false, Zb3, Zb4, Zb5, Zb6, Zb7, Zb8, Zb9, Zca, Zcb, Zcc, Zcd, beq_self_eq_true, cond_true, cond_false, if_false, if_true, reduceIte, reduceCtorEq, not_true_eq_false, not_false_eq_true, true_and, and_true, forall_const, false_and, and_false, implies_true, Zce, Zcf, Zcg, Zch, Zci]
      refine NewB.of fun b3 hb3 hF3 => ?_
      simp only [List.forall_mem_cons] at hb3
      simp (disch := first | assumption | exact Ne.symm (by assumption) | omega) only [hF1, hF2, hF3, ↓ZD, ZU, ne_eq, Zaa, Zab, false_implies, Zac, Zad, Zae, Zaf, Zag, Zah, Zai, Zaj, Zak, Zal, Zam, Zan, Zao, Zap, Zaq, Zar, Zas, Zat, Zau, Zav, Zaw, Zax, Zay, Zaz, Za0, Za1, Za2, Za3, Za4, Za5, Za6, Za7, Za8, Za9, Zba, Zbb, Zbc, Zbd, Zbe, Zbf, Zbg, Zbh, Zbi, Zbj, Zbk, Zbl, Zbm, Zbn, Zbo, Zbp, Zbq, Zbr, Zbs, Zbt, Zbu, Zbv, Zbw, Zbx, Zby, Zbz, Zb0, Zb1, Zb2, decide_true, decide_false, Zb3, Zb4, Zb5, Zb6, Zb7, Zb8, Zb9, Zca, Zcb, Zcc, Zcd, beq_self_eq_true, cond_true, cond_false, if_false, if_true, reduceIte, reduceCtorEq, not_true_eq_false, not_false_eq_true, true_and, and_true, forall_const, false_and, and_false, implies_true, Zce, Zcf, Zcg, Zch, Zci]
      refine CallE.pure hba2 ?_
      simp (disch := first | assumption | exact Ne.symm (by assumption) | omega) only [hF1, hF2, hF3, ↓ZD, ZU, ne_eq, Zaa, Zab, false_implies, Zac, Zad, Zae, Zaf, Zag, Zah, Zai, Zaj, Zak, Zal, Zam, Zan, Zao, Zap, Zaq, Zar, Zas, Zat, Zau, Zav, Zaw, Zax, Zay, Zaz, Za0, Za1, Za2, Za3, Za4, Za5, Za6, Za7, Za8, Za9, Zba, Zbb, Zbc, Zbd, Zbe, Zbf, Zbg, Zbh, Zbi, Zbj, Zbk, Zbl, Zbm, Zbn, Zbo, Zbp, Zbq, Zbr, Zbs, Zbt, Zbu, Zbv, Zbw, Zbx, Zby, Zbz, Zb0, Zb1, Zb2, decide_true, decide_false, Zb3, Zb4, Zb5, Zb6, Zb7, Zb8, Zb9, Zca, Zcb, Zcc, Zcd, beq_self_eq_true, cond_true, cond_false, if_false, if_true, reduceIte, reduceCtorEq, not_true_eq_false, not_false_eq_true, true_and, and_true, forall_const, false_and, and_false, implies_true, Zce, Zcf, Zcg, Zch, Zci]
      refine ⟨fun hx => ?_, fun hx => ?_⟩
      · subst hx
        rw [if_pos rfl] at hJ
        subst hJ
        exact ⟨[], by simp, _, _, rfl, rfl, hrb.mono le_up, Okh.nil⟩
      subst hx
      refine CallE.pure hba3 ?_
      simp (disch := first | assumption | exact Ne.symm (by assumption) | omega) only [hF1, hF2, hF3, ↓ZD, ZU, ne_eq, Zaa, Zab, false_implies, Zac, Zad, Zae, Zaf, Zag, Zah, Zai, Zaj, Zak, Zal, Zam, Zan, Zao, Zap, Zaq, Zar, Zas, Zat, Zau, Zav, Zaw, Zax, Zay, Zaz, Za0, Za1, Za2, Za3, Za4, Za5, Za6, Za7, Za8, Za9, Zba, Zbb, Zbc, Zbd, Zbe, Zbf, Zbg, Zbh, Zbi, Zbj, Zbk, Zbl, Zbm, Zbn, Zbo, Zbp, Zbq, Zbr, Zbs, Zbt, Zbu, Zbv, Zbw, Zbx, Zby, Zbz, Zb0, Zb1, Zb2, decide_true, decide_false, Zb3, Zb4, Zb5, Zb6, Zb7, Zb8, Zb9, Zca, Zcb, Zcc, Zcd, beq_self_eq_true, cond_true, cond_false, if_false, if_true, reduceIte, reduceCtorEq, not_true_eq_false, not_false_eq_true, true_and, and_true, forall_const, false_and, and_false, implies_true, Zce, Zcf, Zcg, Zch, Zci]
      refine ⟨fun hx => ?_, fun hx => ?_⟩
      · subst hx
        rw [if_neg (by simp), if_pos rfl] at hJ
        subst hJ
        exact ⟨[], by simp, _, _, rfl, rfl, hra.mono le_up, Okh.nil⟩
      subst hx
      rw [if_neg (by simp), if_neg (by simp)] at hJ
      refine ⟨fun ht => ?_, fun ht => ?_⟩
      · rw [if_pos (by rw [← Bool.and_assoc]; exact ht)] at hJ
        subst hJ
        exact ⟨[], by simp, _, _, rfl, rfl, RepT.mk 3 [] none 0 none 0 [] [] (fun _ => []) (fun _ => []) (by omega) (by simp) (by simp) (by simp) (by simp) (by simp) (by simp) (by simp) (by simp) (by simp), Okh.nil⟩
      rw [if_neg (by rw [← Bool.and_assoc]; rw [ht]; simp)] at hJ
      refine ⟨fun hkk => ?_, fun hkk => ?_⟩
      · have hkk : k ≠ k' := by simpa using hkk
        rw [if_neg (by omega), if_neg (by omega)] at hJ
        subst hJ
        exact ⟨[], by simp, _, _, rfl, rfl, rfl, rfl⟩
      have hkk : k = k' := by simpa using hkk
      subst hkk
      refine ⟨fun hs => ?_, fun hs => ?_⟩
      · simp only [beq_iff_eq] at hs
        subst hs
        have he1 := m7 rfl
        have he2 := m7' rfl
        rw [if_pos ⟨rfl, rfl, he1, he2⟩] at hJ
        obtain ⟨x, rfl⟩ := List.length_eq_one_iff.mp he1
        obtain ⟨y, rfl⟩ := List.length_eq_one_iff.mp he2
        rw [joinH] at hJ
        obtain ⟨ba, oa, rfl, hla⟩ := (h1 0 x rfl).ldn
        obtain ⟨bb, ob, rfl, hlb⟩ := (h1' 0 y rfl).ldn
        simp only [Nat.zero_mul, Nat.add_zero] at hla hlb
        have hc := i1 0 x rfl _ y (d + 1) (r1' 0 y rfl) (fe x List.mem_cons_self) (mee 0 x rfl) (mee' 0 y rfl)
        refine TreeL.cut (α := Nat × List Value × Int × Hp) (fun z => JoinP F (join x y) z.2.1 z.2.2.1 z.2.2.2 ∧ F z.1 = none ∧ b3 ≠ z.1 ∧ ∀ e ∈ z.2.2.2, e.1 ≠ b3 ∧ e.1 ≠ z.1)
          (fun z => [(4, some (.pointer (some ⟨b3, 0, none⟩))), (6, some (.pointer (some ⟨z.1, 0, none⟩))), (7, some (.int .i64 z.2.2.1))])
          (fun z => (z.1, .cells z.2.1.toArray 25 (0, 0)) :: (b3, .cells #[.int .i64 0, .string (bs []), .slice none 0 0, .slice none 0 0] 25 (0, 0)) :: z.2.2.2) ?_ ?_
        · simp (disch := first | assumption | exact Ne.symm (by assumption) | omega) only [hF1, hF2, hF3, ↓hla, ↓hlb, Nat.zero_mul, Nat.add_zero, ↓ZD, ZU, ne_eq, Zaa, Zab, false_implies, Zac, Zad, Zae, Zaf, Zag, Zah, Zai, Zaj, Zak, Zal, Zam, Zan, Zao, Zap, Zaq, Zar, Zas, Zat, Zau, Zav, Zaw, Zax, Zay, Zaz, Za0, Za1, Za2, Za3, Za4, Za5, Za6, Za7, Za8, Za9, Zba, Zbb, Zbc, Zbd, Zbe, Zbf, Zbg, Zbh, Zbi, Zbj, Zbk, Zbl, Zbm, Zbn, Zbo, Zbp, Zbq, Zbr, Zbs, Zbt, Zbu, Zbv, Zbw, Zbx, Zby, Zbz, Zb0, Zb1, Zb2, decide_true, decide_false, Zb3, Zb4, Zb5, Zb6, Zb7, Zb8, Zb9, Zca, Zcb, Zcc, Zcd, beq_self_eq_true, cond_true, cond_false, if_false, if_true, reduceIte, reduceCtorEq, not_true_eq_false, not_false_eq_true, true_and, and_true, forall_const, false_and, and_false, implies_true, Zce, Zcf, Zcg, Zch, Zci]
          refine ⟨CallN.news (hc.up le_up) ?_, NewB.of fun b4 hb4 hF4 => ?_⟩
          · rintro v H' ⟨cs, er, rfl, hp⟩ hf' hd hn'
            obtain ⟨_, _, _, _, _, _, _, _, hcs⟩ := hp.form
            have hp' := hp
            rw [hcs] at hp
            rw [hcs]
            simp only [List.forall_mem_cons] at hd
            simp (disch := first | assumption | exact Ne.symm (by assumption) | omega) only [hF1, hF2, hF3, ↓ZD, ZU, ne_eq, Zaa, Zab, false_implies, Zac, Zad, Zae, Zaf, Zag, Zah, Zai, Zaj, Zak, Zal, Zam, Zan, Zao, Zap, Zaq, Zar, Zas, Zat, Zau, Zav, Zaw, Zax, Zay, Zaz, Za0, Za1, Za2, Za3, Za4, Za5, Za6, Za7, Za8, Za9, Zba, Zbb, Zbc, Zbd, Zbe, Zbf, Zbg, Zbh, Zbi, Zbj, Zbk, Zbl, Zbm, Zbn, Zbo, Zbp, Zbq, Zbr, Zbs, Zbt, Zbu, Zbv, Zbw, Zbx, Zby, Zbz, Zb0, Zb1, Zb2, decide_true, decide_false, Zb3, Zb4, Zb5, Zb6, Zb7, Zb8, Zb9, Zca, Zcb, Zcc, Zcd, beq_self_eq_true, cond_true, cond_false, if_false, if_true, reduceIte, reduceCtorEq, not_true_eq_false, not_false_eq_true, true_and, and_true, forall_const, false_and, and_false, implies_true, Zce, Zcf, Zcg, Zch, Zci]
            refine NewB.of fun b4 hb4 hF4 => ?_
            simp only [List.forall_mem_cons] at hb4
            have hup : ∀ o, upd H' b4 o = H' := fun o => upd_new hb4.2.2.2
            simp (disch := first | assumption | exact Ne.symm (by assumption) | omega) only [hF1, hF2, hF3, hF4, hup, ↓ZD, ZU, ne_eq, Zaa, Zab, false_implies, Zac, Zad, Zae, Zaf, Zag, Zah, Zai, Zaj, Zak, Zal, Zam, Zan, Zao, Zap, Zaq, Zar, Zas, Zat, Zau, Zav, Zaw, Zax, Zay, Zaz, Za0, Za1, Za2, Za3, Za4, Za5, Za6, Za7, Za8, Za9, Zba, Zbb, Zbc, Zbd, Zbe, Zbf, Zbg, Zbh, Zbi, Zbj, Zbk, Zbl, Zbm, Zbn, Zbo, Zbp, Zbq, Zbr, Zbs, Zbt, Zbu, Zbv, Zbw, Zbx, Zby, Zbz, Zb0, Zb1, Zb2, decide_true, decide_false, Zb3, Zb4, Zb5, Zb6, Zb7, Zb8, Zb9, Zca, Zcb, Zcc, Zcd, beq_self_eq_true, cond_true, cond_false, if_false, if_true, reduceIte, reduceCtorEq, not_true_eq_false, not_false_eq_true, true_and, and_true, forall_const, false_and, and_false, implies_true, Zce, Zcf, Zcg, Zch, Zci]
            refine CutK.on (b4, _, er, H') ⟨hp, hF4, hb4.1, fun e he => ⟨hd.1 e he, hb4.2.2.2 e he⟩⟩ (by (simp only [Le_nil, Le_cons]; simp (disch := first | assumption | exact Ne.symm (by assumption) | omega) only [↓ZD, ZU, ne_eq, Zaa, Zab, false_implies, Zac, Zad, Zae, Zaf, Zag, Zah, Zai, Zaj, Zak, Zal, Zam, Zan, Zao, Zap, Zaq, Zar, Zas, Zat, Zau, Zav, Zaw, Zax, Zay, Zaz, Za0, Za1, Za2, Za3, Za4, Za5, Za6, Za7, Za8, Za9, Zba, Zbb, Zbc, Zbd, Zbe, Zbf, Zbg, Zbh, Zbi, Zbj, Zbk, Zbl, Zbm, Zbn, Zbo, Zbp, Zbq, Zbr, Zbs, Zbt, Zbu, Zbv, Zbw, Zbx, Zby, Zbz, Zb0, Zb1, Zb2, decide_true, decide_false, Zb3, Zb4, Zb5, Zb6, Zb7, Zb8, Zb9, Zca, Zcb, Zcc, Zcd, beq_self_eq_true, cond_true, cond_false, if_false, if_true, reduceIte, reduceCtorEq, not_true_eq_false, not_false_eq_true, true_and, and_true, forall_const, false_and, and_false, implies_true, Zce, Zcf, Zcg, Zch, Zci]; try trivial)) ⟨by simp (disch := first | assumption | exact Ne.symm (by assumption) | omega) only [↓ZD, ZU, ne_eq, Zaa, Zab, false_implies, Zac, Zad, Zae, Zaf, Zag, Zah, Zai, Zaj, Zak, Zal, Zam, Zan, Zao, Zap, Zaq, Zar, Zas, Zat, Zau, Zav, Zaw, Zax, Zay, Zaz, Za0, Za1, Za2, Za3, Za4, Za5, Za6, Za7, Za8, Za9, Zba, Zbb, Zbc, Zbd, Zbe, Zbf, Zbg, Zbh, Zbi, Zbj, Zbk, Zbl, Zbm, Zbn, Zbo, Zbp, Zbq, Zbr, Zbs, Zbt, Zbu, Zbv, Zbw, Zbx, Zby, Zbz, Zb0, Zb1, Zb2, decide_true, decide_false, Zb3, Zb4, Zb5, Zb6, Zb7, Zb8, Zb9, Zca, Zcb, Zcc, Zcd, beq_self_eq_true, cond_true, cond_false, if_false, if_true, reduceIte, reduceCtorEq, not_true_eq_false, not_false_eq_true, true_and, and_true, forall_const, false_and, and_false, implies_true, Zce, Zcf, Zcg, Zch, Zci], by simp (disch := first | assumption | exact Ne.symm (by assumption) | omega) only [↓ZD, ZU, ne_eq, Zaa, Zab, false_implies, Zac, Zad, Zae, Zaf, Zag, Zah, Zai, Zaj, Zak, Zal, Zam, Zan, Zao, Zap, Zaq, Zar, Zas, Zat, Zau, Zav, Zaw, Zax, Zay, Zaz, Za0, Za1, Za2, Za3, Za4, Za5, Za6, Za7, Za8, Za9, Zba, Zbb, Zbc, Zbd, Zbe, Zbf, Zbg, Zbh, Zbi, Zbj, Zbk, Zbl, Zbm, Zbn, Zbo, Zbp, Zbq, Zbr, Zbs, Zbt, Zbu, Zbv, Zbw, Zbx, Zby, Zbz, Zb0, Zb1, Zb2, decide_true, decide_false, Zb3, Zb4, Zb5, Zb6, Zb7, Zb8, Zb9, Zca, Zcb, Zcc, Zcd, beq_self_eq_true, cond_true, cond_false, if_false, if_true, reduceIte, reduceCtorEq, not_true_eq_false, not_false_eq_true, true_and, and_true, forall_const, false_and, and_false, implies_true, Zce, Zcf, Zcg, Zch, Zci], HLe.of ?_⟩
            refine Okh.lk (A := [_, _, _, _]) hp.ok ?_
            simp only [List.forall_mem_cons]
            exact ⟨hb4.2.2.2, hd⟩
          · simp only [List.forall_mem_cons] at hb4
            simp (disch := first | assumption | exact Ne.symm (by assumption) | omega) only [hF1, hF2, hF3, hF4, ↓ZD, ZU, ne_eq, Zaa, Zab, false_implies, Zac, Zad, Zae, Zaf, Zag, Zah, Zai, Zaj, Zak, Zal, Zam, Zan, Zao, Zap, Zaq, Zar, Zas, Zat, Zau, Zav, Zaw, Zax, Zay, Zaz, Za0, Za1, Za2, Za3, Za4, Za5, Za6, Za7, Za8, Za9, Zba, Zbb, Zbc, Zbd, Zbe, Zbf, Zbg, Zbh, Zbi, Zbj, Zbk, Zbl, Zbm, Zbn, Zbo, Zbp, Zbq, Zbr, Zbs, Zbt, Zbu, Zbv, Zbw, Zbx, Zby, Zbz, Zb0, Zb1, Zb2, decide_true, decide_false, Zb3, Zb4, Zb5, Zb6, Zb7, Zb8, Zb9, Zca, Zcb, Zcc, Zcd, beq_self_eq_true, cond_true, cond_false, if_false, if_true, reduceIte, reduceCtorEq, not_true_eq_false, not_false_eq_true, true_and, and_true, forall_const, false_and, and_false, implies_true, Zce, Zcf, Zcg, Zch, Zci]
            refine CallN.news (hc.up le_up) ?_
            rintro v H' ⟨cs, er, rfl, hp⟩ hf' hd hn'
            obtain ⟨_, _, _, _, _, _, _, _, hcs⟩ := hp.form
            rw [hcs] at hp
            rw [hcs]
            simp only [List.forall_mem_cons] at hd
            have hup : ∀ o, upd H' b4 o = H' := fun o => upd_new hd.1
            simp (disch := first | assumption | exact Ne.symm (by assumption) | omega) only [hF1, hF2, hF3, hF4, hup, ↓ZD, ZU, ne_eq, Zaa, Zab, false_implies, Zac, Zad, Zae, Zaf, Zag, Zah, Zai, Zaj, Zak, Zal, Zam, Zan, Zao, Zap, Zaq, Zar, Zas, Zat, Zau, Zav, Zaw, Zax, Zay, Zaz, Za0, Za1, Za2, Za3, Za4, Za5, Za6, Za7, Za8, Za9, Zba, Zbb, Zbc, Zbd, Zbe, Zbf, Zbg, Zbh, Zbi, Zbj, Zbk, Zbl, Zbm, Zbn, Zbo, Zbp, Zbq, Zbr, Zbs, Zbt, Zbu, Zbv, Zbw, Zbx, Zby, Zbz, Zb0, Zb1, Zb2, decide_true, decide_false, Zb3, Zb4, Zb5, Zb6, Zb7, Zb8, Zb9, Zca, Zcb, Zcc, Zcd, beq_self_eq_true, cond_true, cond_false, if_false, if_true, reduceIte, reduceCtorEq, not_true_eq_false, not_false_eq_true, true_and, and_true, forall_const, false_and, and_false, implies_true, Zce, Zcf, Zcg, Zch, Zci]
            refine CutK.on (b4, _, er, H') ⟨hp, hF4, hb4.1, fun e he => ⟨hd.2.1 e he, hd.1 e he⟩⟩ (by (simp only [Le_nil, Le_cons]; simp (disch := first | assumption | exact Ne.symm (by assumption) | omega) only [↓ZD, ZU, ne_eq, Zaa, Zab, false_implies, Zac, Zad, Zae, Zaf, Zag, Zah, Zai, Zaj, Zak, Zal, Zam, Zan, Zao, Zap, Zaq, Zar, Zas, Zat, Zau, Zav, Zaw, Zax, Zay, Zaz, Za0, Za1, Za2, Za3, Za4, Za5, Za6, Za7, Za8, Za9, Zba, Zbb, Zbc, Zbd, Zbe, Zbf, Zbg, Zbh, Zbi, Zbj, Zbk, Zbl, Zbm, Zbn, Zbo, Zbp, Zbq, Zbr, Zbs, Zbt, Zbu, Zbv, Zbw, Zbx, Zby, Zbz, Zb0, Zb1, Zb2, decide_true, decide_false, Zb3, Zb4, Zb5, Zb6, Zb7, Zb8, Zb9, Zca, Zcb, Zcc, Zcd, beq_self_eq_true, cond_true, cond_false, if_false, if_true, reduceIte, reduceCtorEq, not_true_eq_false, not_false_eq_true, true_and, and_true, forall_const, false_and, and_false, implies_true, Zce, Zcf, Zcg, Zch, Zci]; try trivial)) ⟨by simp (disch := first | assumption | exact Ne.symm (by assumption) | omega) only [↓ZD, ZU, ne_eq, Zaa, Zab, false_implies, Zac, Zad, Zae, Zaf, Zag, Zah, Zai, Zaj, Zak, Zal, Zam, Zan, Zao, Zap, Zaq, Zar, Zas, Zat, Zau, Zav, Zaw, Zax, Zay, Zaz, Za0, Za1, Za2, Za3, Za4, Za5, Za6, Za7, Za8, Za9, Zba, Zbb, Zbc, Zbd, Zbe, Zbf, Zbg, Zbh, Zbi, Zbj, Zbk, Zbl, Zbm, Zbn, Zbo, Zbp, Zbq, Zbr, Zbs, Zbt, Zbu, Zbv, Zbw, Zbx, Zby, Zbz, Zb0, Zb1, Zb2, decide_true, decide_false, Zb3, Zb4, Zb5, Zb6, Zb7, Zb8, Zb9, Zca, Zcb, Zcc, Zcd, beq_self_eq_true, cond_true, cond_false, if_false, if_true, reduceIte, reduceCtorEq, not_true_eq_false, not_false_eq_true, true_and, and_true, forall_const, false_and, and_false, implies_true, Zce, Zcf, Zcg, Zch, Zci], by simp (disch := first | assumption | exact Ne.symm (by assumption) | omega) only [↓ZD, ZU, ne_eq, Zaa, Zab, false_implies, Zac, Zad, Zae, Zaf, Zag, Zah, Zai, Zaj, Zak, Zal, Zam, Zan, Zao, Zap, Zaq, Zar, Zas, Zat, Zau, Zav, Zaw, Zax, Zay, Zaz, Za0, Za1, Za2, Za3, Za4, Za5, Za6, Za7, Za8, Za9, Zba, Zbb, Zbc, Zbd, Zbe, Zbf, Zbg, Zbh, Zbi, Zbj, Zbk, Zbl, Zbm, Zbn, Zbo, Zbp, Zbq, Zbr, Zbs, Zbt, Zbu, Zbv, Zbw, Zbx, Zby, Zbz, Zb0, Zb1, Zb2, decide_true, decide_false, Zb3, Zb4, Zb5, Zb6, Zb7, Zb8, Zb9, Zca, Zcb, Zcc, Zcd, beq_self_eq_true, cond_true, cond_false, if_false, if_true, reduceIte, reduceCtorEq, not_true_eq_false, not_false_eq_true, true_and, and_true, forall_const, false_and, and_false, implies_true, Zce, Zcf, Zcg, Zch, Zci], HLe.of ?_⟩
            refine Okh.lk (A := [_, _, _, _]) hp.ok ?_
            simp only [List.forall_mem_cons]
            exact hd
        · rintro ⟨b4, cs, er, H'⟩ ⟨hp, hF4, hb34, hd⟩
          simp only at hp hF4 hb34 hd
          obtain ⟨q1, q2, q3, q4, q5, q6, q7, q8, hcs⟩ := hp.form
          rw [hcs] at hp
          rw [hcs]
          simp (disch := first | assumption | exact Ne.symm (by assumption) | omega) only [hF3, hF4, ↓ZD, ZU, ne_eq, Zaa, Zab, false_implies, Zac, Zad, Zae, Zaf, Zag, Zah, Zai, Zaj, Zak, Zal, Zam, Zan, Zao, Zap, Zaq, Zar, Zas, Zat, Zau, Zav, Zaw, Zax, Zay, Zaz, Za0, Za1, Za2, Za3, Za4, Za5, Za6, Za7, Za8, Za9, Zba, Zbb, Zbc, Zbd, Zbe, Zbf, Zbg, Zbh, Zbi, Zbj, Zbk, Zbl, Zbm, Zbn, Zbo, Zbp, Zbq, Zbr, Zbs, Zbt, Zbu, Zbv, Zbw, Zbx, Zby, Zbz, Zb0, Zb1, Zb2, decide_true, decide_false, Zb3, Zb4, Zb5, Zb6, Zb7, Zb8, Zb9, Zca, Zcb, Zcc, Zcd, beq_self_eq_true, cond_true, cond_false, if_false, if_true, reduceIte, reduceCtorEq, not_true_eq_false, not_false_eq_true, true_and, and_true, forall_const, false_and, and_false, implies_true, Zce, Zcf, Zcg, Zch, Zci]
          refine ⟨fun he => ?_, fun he => ?_⟩
          · refine ⟨[], by simp, _, _, rfl, ?_⟩
            rw [← hJ]
            cases hj : join x y with
            | none => rw [hj] at hp; exact ⟨rfl, hp.2.1, rfl⟩
            | some u => rw [hj] at hp; rw [hp.1] at he; cases he
          · cases hj : join x y with
            | none => rw [hj] at hp; rw [hp.2.1] at he; cases he
            | some u =>
              rw [hj] at hp
              refine NewB.of fun b5 hb5 hF5 => ?_
              simp only [List.forall_mem_cons] at hb5
              have hup : ∀ o, upd H' b3 o = H' := fun o => upd_new fun e he => (hd e he).1
              simp (disch := first | assumption | exact Ne.symm (by assumption) | omega) only [hF3, hF4, hF5, hup, ↓ZD, ZU, ne_eq, Zaa, Zab, false_implies, Zac, Zad, Zae, Zaf, Zag, Zah, Zai, Zaj, Zak, Zal, Zam, Zan, Zao, Zap, Zaq, Zar, Zas, Zat, Zau, Zav, Zaw, Zax, Zay, Zaz, Za0, Za1, Za2, Za3, Za4, Za5, Za6, Za7, Za8, Za9, Zba, Zbb, Zbc, Zbd, Zbe, Zbf, Zbg, Zbh, Zbi, Zbj, Zbk, Zbl, Zbm, Zbn, Zbo, Zbp, Zbq, Zbr, Zbs, Zbt, Zbu, Zbv, Zbw, Zbx, Zby, Zbz, Zb0, Zb1, Zb2, decide_true, decide_false, Zb3, Zb4, Zb5, Zb6, Zb7, Zb8, Zb9, Zca, Zcb, Zcc, Zcd, beq_self_eq_true, cond_true, cond_false, if_false, if_true, reduceIte, reduceCtorEq, not_true_eq_false, not_false_eq_true, true_and, and_true, forall_const, false_and, and_false, implies_true, Zce, Zcf, Zcg, Zch, Zci]
              rw [hj, Option.map_some] at hJ
              subst hJ
              refine ⟨(b5, .cells #[.int .i64 q1, .string (bs q2), .slice q3 q4 q5, .slice q6 q7 q8] 25 (0, 0)) :: H', ?_, _, _, rfl, rfl, rep_set (by simp [rdObj, hF5, lk]) (hp.2.1.mono fun b o h => ?_), hp.2.2.cons hb5.2.2⟩
              · intro e he
                rcases List.mem_cons.1 he with rfl | he
                · simp
                · simp [he]
              · exact rdObj_app (A := [(b5, _)]) (by simp only [List.forall_mem_cons]; exact ⟨hb5.2.2, fun e he => by cases he⟩) h
      · have hs' : k ≠ 7 := by simpa using hs
        rw [if_neg (fun h => hs' h.1)] at hJ
        refine CallE.pure (names_pure F a2 a2' c2 c2' ats ats' g2 g2' hl2 hl2' ⟨h2, r2⟩ ⟨h2', r2'⟩) ?_
        simp (disch := first | assumption | exact Ne.symm (by assumption) | omega) only [hF1, hF2, hF3, ↓ZD, ZU, ne_eq, Zaa, Zab, false_implies, Zac, Zad, Zae, Zaf, Zag, Zah, Zai, Zaj, Zak, Zal, Zam, Zan, Zao, Zap, Zaq, Zar, Zas, Zat, Zau, Zav, Zaw, Zax, Zay, Zaz, Za0, Za1, Za2, Za3, Za4, Za5, Za6, Za7, Za8, Za9, Zba, Zbb, Zbc, Zbd, Zbe, Zbf, Zbg, Zbh, Zbi, Zbj, Zbk, Zbl, Zbm, Zbn, Zbo, Zbp, Zbq, Zbr, Zbs, Zbt, Zbu, Zbv, Zbw, Zbx, Zby, Zbz, Zb0, Zb1, Zb2, decide_true, decide_false, Zb3, Zb4, Zb5, Zb6, Zb7, Zb8, Zb9, Zca, Zcb, Zcc, Zcd, beq_self_eq_true, cond_true, cond_false, if_false, if_true, reduceIte, reduceCtorEq, not_true_eq_false, not_false_eq_true, true_and, and_true, forall_const, false_and, and_false, implies_true, Zce, Zcf, Zcg, Zch, Zci]
        refine ⟨fun hr => ?_, fun hr => ?_⟩
        · rw [if_neg (by rintro ⟨rfl, -, h⟩; rw [h] at hr; simp at hr)] at hJ
          subst hJ
          exact ⟨[], by simp, _, _, rfl, rfl, rfl, rfl⟩
        · simp only [Bool.or_eq_false_iff, bne_eq_false_iff_eq, Bool.not_eq_false'] at hr
          obtain ⟨rfl, hnn⟩ := hr
          rw [if_pos ⟨rfl, rfl, hnn⟩] at hJ
          have hlen : ats.length = ats'.length := all2_len hnn
          refine NewB.of fun b4 hb4 hF4 => ?_
          simp only [List.forall_mem_cons] at hb4
          simp (disch := first | assumption | exact Ne.symm (by assumption) | omega) only [hF1, hF2, hF3, hF4, ↓ZD, ZU, ne_eq, Zaa, Zab, false_implies, Zac, Zad, Zae, Zaf, Zag, Zah, Zai, Zaj, Zak, Zal, Zam, Zan, Zao, Zap, Zaq, Zar, Zas, Zat, Zau, Zav, Zaw, Zax, Zay, Zaz, Za0, Za1, Za2, Za3, Za4, Za5, Za6, Za7, Za8, Za9, Zba, Zbb, Zbc, Zbd, Zbe, Zbf, Zbg, Zbh, Zbi, Zbj, Zbk, Zbl, Zbm, Zbn, Zbo, Zbp, Zbq, Zbr, Zbs, Zbt, Zbu, Zbv, Zbw, Zbx, Zby, Zbz, Zb0, Zb1, Zb2, decide_true, decide_false, Zb3, Zb4, Zb5, Zb6, Zb7, Zb8, Zb9, Zca, Zcb, Zcc, Zcd, beq_self_eq_true, cond_true, cond_false, if_false, if_true, reduceIte, reduceCtorEq, not_true_eq_false, not_false_eq_true, true_and, and_true, forall_const, false_and, and_false, implies_true, Zce, Zcf, Zcg, Zch, Zci]
          refine LoopL.inv (α := Nat × List At × List Value × Value × Hp × Hp) (fun z => z.1 ≤ ats.length ∧ z.2.1.length = z.1 ∧ joinA ats ats' = (joinA (ats.drop z.1) (ats'.drop z.1)).map (z.2.1 ++ ·) ∧ OwnS F 6 30 z.2.2.1 z.1 z.2.2.2.1 z.2.2.2.2.1 ∧
              RowsA (rdObj F z.2.2.2.2.2) z.2.1 z.2.2.1 ∧ Okh z.2.2.2.2.2 ∧ (∀ e ∈ z.2.2.2.2.1 ++ z.2.2.2.2.2, e.1 ≠ b4 ∧ e.1 ≠ b3 ∧ e.1 ≠ b2 ∧ e.1 ≠ b1) ∧ ∀ e' ∈ z.2.2.2.2.1, ∀ e ∈ z.2.2.2.2.2, e.1 ≠ e'.1)
            (fun z => [(2, some (.pointer (some ⟨b1, 0, none⟩))), (3, some (.pointer (some ⟨b2, 0, none⟩))), (4, some (.pointer (some ⟨b3, 0, none⟩))), (9, some (.pointer (some ⟨b4, 0, none⟩))), (10, some (.int .i64 z.1))])
            (fun z => (b4, .cells #[.int .i64 8, .string (bs []), .slice none 0 0, z.2.2.2.1] 25 (0, 0)) :: (b3, .cells #[.int .i64 0, .string (bs []), .slice none 0 0, .slice none 0 0] 25 (0, 0)) ::
              (b2, .cells #[.int .i64 8, .string (bs nm'), .slice a1' es'.length c1', .slice a2' ats'.length c2'] 25 (0, 0)) :: (b1, .cells #[.int .i64 8, .string (bs nm), .slice a1 es.length c1, .slice a2 ats.length c2] 25 (0, 0)) :: (z.2.2.2.2.1 ++ z.2.2.2.2.2))
            (fun z => ats.length - z.1) (0, [], [], .slice none 0 0, [], []) ⟨Nat.zero_le _, rfl, by simp, .nil, fun j x h => by simp at h, Okh.nil, by simp, by simp⟩ (by (simp only [Le_nil, Le_cons]; simp (disch := first | assumption | exact Ne.symm (by assumption) | omega) only [↓ZD, ZU, ne_eq, Zaa, Zab, false_implies, Zac, Zad, Zae, Zaf, Zag, Zah, Zai, Zaj, Zak, Zal, Zam, Zan, Zao, Zap, Zaq, Zar, Zas, Zat, Zau, Zav, Zaw, Zax, Zay, Zaz, Za0, Za1, Za2, Za3, Za4, Za5, Za6, Za7, Za8, Za9, Zba, Zbb, Zbc, Zbd, Zbe, Zbf, Zbg, Zbh, Zbi, Zbj, Zbk, Zbl, Zbm, Zbn, Zbo, Zbp, Zbq, Zbr, Zbs, Zbt, Zbu, Zbv, Zbw, Zbx, Zby, Zbz, Zb0, Zb1, Zb2, decide_true, decide_false, Zb3, Zb4, Zb5, Zb6, Zb7, Zb8, Zb9, Zca, Zcb, Zcc, Zcd, beq_self_eq_true, cond_true, cond_false, if_false, if_true, reduceIte, reduceCtorEq, not_true_eq_false, not_false_eq_true, true_and, and_true, forall_const, false_and, and_false, implies_true, Zce, Zcf, Zcg, Zch, Zci]; try trivial)) (by simp only [HLe_cons, List.nil_append]; simp (disch := first | assumption | exact Ne.symm (by assumption) | omega) only [HLe_nil, ↓ZD, ZU, ne_eq, Zaa, Zab, false_implies, Zac, Zad, Zae, Zaf, Zag, Zah, Zai, Zaj, Zak, Zal, Zam, Zan, Zao, Zap, Zaq, Zar, Zas, Zat, Zau, Zav, Zaw, Zax, Zay, Zaz, Za0, Za1, Za2, Za3, Za4, Za5, Za6, Za7, Za8, Za9, Zba, Zbb, Zbc, Zbd, Zbe, Zbf, Zbg, Zbh, Zbi, Zbj, Zbk, Zbl, Zbm, Zbn, Zbo, Zbp, Zbq, Zbr, Zbs, Zbt, Zbu, Zbv, Zbw, Zbx, Zby, Zbz, Zb0, Zb1, Zb2, decide_true, decide_false, Zb3, Zb4, Zb5, Zb6, Zb7, Zb8, Zb9, Zca, Zcb, Zcc, Zcd, beq_self_eq_true, cond_true, cond_false, if_false, if_true, reduceIte, reduceCtorEq, not_true_eq_false, not_false_eq_true, true_and, and_true, forall_const, false_and, and_false, implies_true, Zce, Zcf, Zcg, Zch, Zci]) ?_
          rintro ⟨i, r, rows, v, Ho, Hx⟩ ⟨hi, hrl, hja, ho, hrw, hox, hap, had⟩
          simp only at hi hrl hja ho hrw hox hap had
          have hoh : Okh (Ho ++ Hx) := Okh.app (okh_own ho) hox had
          by_cases hlt : i < ats.length
          · have hd : decide ((i : Int) < (ats.length : Int)) = true := by simp; omega
            have hd' : decide ((i : Int) < (ats'.length : Int)) = true := by simp; omega
            have hlt' : i < ats'.length := by omega
            have gx := getA hlt
            have gy := getA hlt'
            have hc := i2 i _ gx _ _ (d + 1) (r2' i _ gy) (fa _ (List.mem_of_getElem? gx)) (mta i _ gx) (mta' i _ gy)
            have q1 := h2 i _ gx
            have q2 := h2' i _ gy
            have nx := hn.2 i _ gx
            have rx := r2 i _ gx
            have ry := r2' i _ gy
            rw [List.drop_eq_getElem_cons hlt, List.drop_eq_getElem_cons hlt'] at hja
            have ex : ats[i] = ats.getD i nilA := by simp [hlt]
            have ey : ats'[i] = ats'.getD i nilA := by simp [hlt']
            rw [ex, ey] at hja
            revert hc q1 q2 nx rx ry hja
            generalize ats.getD i nilA = x
            generalize ats'.getD i nilA = y
            generalize g2 i = cx
            generalize g2' i = cy
            intro hja hc q1 q2 nx rx ry
            obtain ⟨xn, xt, xo⟩ := x
            obtain ⟨yn, yt, yo⟩ := y
            obtain ⟨k1, m1, s1, t1, u1, s2, t2, u2, rfl⟩ := rx.form
            obtain ⟨k2, m2, s3, t3, u3, s4, t4, u4, rfl⟩ := ry.form
            obtain ⟨ba, oa, rfl, hla, hla'⟩ := q1.all
            obtain ⟨bb, ob, rfl, hlb, hlb'⟩ := q2.all
            have k1a := hla 1 4 (by omega)
            have k2a := hlb 1 4 (by omega)
            have k3a := hla' 0 (by omega)
            have k4a := hla' 5 (by omega)
            have k5a := hlb' 5 (by omega)
            simp only [List.cons_append, List.nil_append, List.drop_succ_cons, List.drop_zero, List.take_succ_cons, List.take_zero, List.getD_cons_succ, List.getD_cons_zero, Nat.add_zero] at k1a k2a k3a k4a k5a
            obtain ⟨_, _, _, _⟩ := hb4
            obtain ⟨_, _, _⟩ := hb3
            obtain ⟨_, _⟩ := hb2
            simp (disch := first | assumption | exact Ne.symm (by assumption) | omega) only [hF1, hF2, hF3, hF4, hd, ↓ZD, ZU, ne_eq, Zaa, Zab, false_implies, Zac, Zad, Zae, Zaf, Zag, Zah, Zai, Zaj, Zak, Zal, Zam, Zan, Zao, Zap, Zaq, Zar, Zas, Zat, Zau, Zav, Zaw, Zax, Zay, Zaz, Za0, Za1, Za2, Za3, Za4, Za5, Za6, Za7, Za8, Za9, Zba, Zbb, Zbc, Zbd, Zbe, Zbf, Zbg, Zbh, Zbi, Zbj, Zbk, Zbl, Zbm, Zbn, Zbo, Zbp, Zbq, Zbr, Zbs, Zbt, Zbu, Zbv, Zbw, Zbx, Zby, Zbz, Zb0, Zb1, Zb2, decide_true, decide_false, Zb3, Zb4, Zb5, Zb6, Zb7, Zb8, Zb9, Zca, Zcb, Zcc, Zcd, beq_self_eq_true, cond_true, cond_false, if_false, if_true, reduceIte, reduceCtorEq, not_true_eq_false, not_false_eq_true, true_and, and_true, forall_const, false_and, and_false, implies_true, Zce, Zcf, Zcg, Zch, Zci]
            refine TreeL.cut (α := Nat × List Value × Int × Hp) (fun z => JoinP F (join xt yt) z.2.1 z.2.2.1 z.2.2.2 ∧ F z.1 = none ∧ (b4 ≠ z.1 ∧ b3 ≠ z.1 ∧ b2 ≠ z.1 ∧ b1 ≠ z.1) ∧ (∀ e ∈ Ho ++ Hx, e.1 ≠ z.1) ∧ (∀ e ∈ z.2.2.2, e.1 ≠ z.1 ∧ e.1 ≠ b4 ∧ e.1 ≠ b3 ∧ e.1 ≠ b2 ∧ e.1 ≠ b1) ∧ ∀ x ∈ Ho ++ Hx, ∀ e ∈ z.2.2.2, e.1 ≠ x.1)
              (fun z => [(2, some (.pointer (some ⟨b1, 0, none⟩))), (3, some (.pointer (some ⟨b2, 0, none⟩))), (4, some (.pointer (some ⟨b3, 0, none⟩))), (9, some (.pointer (some ⟨b4, 0, none⟩))), (10, some (.int .i64 i)), (11, some (.pointer (some ⟨z.1, 0, none⟩))), (12, some (.int .i64 z.2.2.1))])
              (fun z => (z.1, .cells z.2.1.toArray 25 (0, 0)) :: (b4, .cells #[.int .i64 8, .string (bs []), .slice none 0 0, v] 25 (0, 0)) :: (b3, .cells #[.int .i64 0, .string (bs []), .slice none 0 0, .slice none 0 0] 25 (0, 0)) ::
                (b2, .cells #[.int .i64 8, .string (bs nm'), .slice a1' es'.length c1', .slice (some ⟨bb, ob, none⟩) ats'.length c2'] 25 (0, 0)) :: (b1, .cells #[.int .i64 8, .string (bs nm), .slice a1 es.length c1, .slice (some ⟨ba, oa, none⟩) ats.length c2] 25 (0, 0)) :: ((Ho ++ Hx) ++ z.2.2.2)) ?_ ?_
            · simp (disch := first | assumption | exact Ne.symm (by assumption) | omega) only [hF1, hF2, hF3, hF4, hd, hd', ↓k1a, ↓k2a, Int.toNat_natCast, ↓ZD, ZU, ne_eq, Zaa, Zab, false_implies, Zac, Zad, Zae, Zaf, Zag, Zah, Zai, Zaj, Zak, Zal, Zam, Zan, Zao, Zap, Zaq, Zar, Zas, Zat, Zau, Zav, Zaw, Zax, Zay, Zaz, Za0, Za1, Za2, Za3, Za4, Za5, Za6, Za7, Za8, Za9, Zba, Zbb, Zbc, Zbd, Zbe, Zbf, Zbg, Zbh, Zbi, Zbj, Zbk, Zbl, Zbm, Zbn, Zbo, Zbp, Zbq, Zbr, Zbs, Zbt, Zbu, Zbv, Zbw, Zbx, Zby, Zbz, Zb0, Zb1, Zb2, decide_true, decide_false, Zb3, Zb4, Zb5, Zb6, Zb7, Zb8, Zb9, Zca, Zcb, Zcc, Zcd, beq_self_eq_true, cond_true, cond_false, if_false, if_true, reduceIte, reduceCtorEq, not_true_eq_false, not_false_eq_true, true_and, and_true, forall_const, false_and, and_false, implies_true, Zce, Zcf, Zcg, Zch, Zci]
              refine conj.of (by omega) ?_
              simp (disch := first | assumption | exact Ne.symm (by assumption) | omega) only [hF1, hF2, hF3, hF4, hd, hd', ↓k1a, ↓k2a, Int.toNat_natCast, ↓ZD, ZU, ne_eq, Zaa, Zab, false_implies, Zac, Zad, Zae, Zaf, Zag, Zah, Zai, Zaj, Zak, Zal, Zam, Zan, Zao, Zap, Zaq, Zar, Zas, Zat, Zau, Zav, Zaw, Zax, Zay, Zaz, Za0, Za1, Za2, Za3, Za4, Za5, Za6, Za7, Za8, Za9, Zba, Zbb, Zbc, Zbd, Zbe, Zbf, Zbg, Zbh, Zbi, Zbj, Zbk, Zbl, Zbm, Zbn, Zbo, Zbp, Zbq, Zbr, Zbs, Zbt, Zbu, Zbv, Zbw, Zbx, Zby, Zbz, Zb0, Zb1, Zb2, decide_true, decide_false, Zb3, Zb4, Zb5, Zb6, Zb7, Zb8, Zb9, Zca, Zcb, Zcc, Zcd, beq_self_eq_true, cond_true, cond_false, if_false, if_true, reduceIte, reduceCtorEq, not_true_eq_false, not_false_eq_true, true_and, and_true, forall_const, false_and, and_false, implies_true, Zce, Zcf, Zcg, Zch, Zci]
              refine conj.of (by omega) ?_
              simp (disch := first | assumption | exact Ne.symm (by assumption) | omega) only [hF1, hF2, hF3, hF4, hd, hd', ↓k1a, ↓k2a, Int.toNat_natCast, ↓ZD, ZU, ne_eq, Zaa, Zab, false_implies, Zac, Zad, Zae, Zaf, Zag, Zah, Zai, Zaj, Zak, Zal, Zam, Zan, Zao, Zap, Zaq, Zar, Zas, Zat, Zau, Zav, Zaw, Zax, Zay, Zaz, Za0, Za1, Za2, Za3, Za4, Za5, Za6, Za7, Za8, Za9, Zba, Zbb, Zbc, Zbd, Zbe, Zbf, Zbg, Zbh, Zbi, Zbj, Zbk, Zbl, Zbm, Zbn, Zbo, Zbp, Zbq, Zbr, Zbs, Zbt, Zbu, Zbv, Zbw, Zbx, Zby, Zbz, Zb0, Zb1, Zb2, decide_true, decide_false, Zb3, Zb4, Zb5, Zb6, Zb7, Zb8, Zb9, Zca, Zcb, Zcc, Zcd, beq_self_eq_true, cond_true, cond_false, if_false, if_true, reduceIte, reduceCtorEq, not_true_eq_false, not_false_eq_true, true_and, and_true, forall_const, false_and, and_false, implies_true, Zce, Zcf, Zcg, Zch, Zci]
              have hh1 : ∀ e ∈ Ho ++ Hx, e.1 ≠ b4 := fun e he => (hap e he).1
              refine ⟨CallN.news (hc.up le_up) ?_, NewB.of fun b7 hb7 hF7 => ?_⟩
              · rintro v' H' ⟨cs, er, rfl, hp⟩ hf' hdd hn'
                obtain ⟨q1, q2, q3, q4, q5, q6, q7, q8, hcs⟩ := hp.form
                rw [hcs] at hp
                rw [hcs]
                simp only [List.forall_mem_cons] at hdd
                obtain ⟨hd4, hd3, hd2, hd1, hdx⟩ := hdd
                simp (disch := first | assumption | exact Ne.symm (by assumption) | omega) only [hF1, hF2, hF3, hF4, ↓ZD, ZU, ne_eq, Zaa, Zab, false_implies, Zac, Zad, Zae, Zaf, Zag, Zah, Zai, Zaj, Zak, Zal, Zam, Zan, Zao, Zap, Zaq, Zar, Zas, Zat, Zau, Zav, Zaw, Zax, Zay, Zaz, Za0, Za1, Za2, Za3, Za4, Za5, Za6, Za7, Za8, Za9, Zba, Zbb, Zbc, Zbd, Zbe, Zbf, Zbg, Zbh, Zbi, Zbj, Zbk, Zbl, Zbm, Zbn, Zbo, Zbp, Zbq, Zbr, Zbs, Zbt, Zbu, Zbv, Zbw, Zbx, Zby, Zbz, Zb0, Zb1, Zb2, decide_true, decide_false, Zb3, Zb4, Zb5, Zb6, Zb7, Zb8, Zb9, Zca, Zcb, Zcc, Zcd, beq_self_eq_true, cond_true, cond_false, if_false, if_true, reduceIte, reduceCtorEq, not_true_eq_false, not_false_eq_true, true_and, and_true, forall_const, false_and, and_false, implies_true, Zce, Zcf, Zcg, Zch, Zci]
                refine NewB.of fun b7 hb7 hF7 => ?_
                simp only [List.forall_mem_cons] at hb7
                obtain ⟨hb74, hb73, hb72, hb71, hb7x⟩ := hb7
                have hup : ∀ o, upd (Ho ++ Hx ++ H') b7 o = Ho ++ Hx ++ H' := fun o => upd_new hb7x
                simp (disch := first | assumption | exact Ne.symm (by assumption) | omega) only [hF1, hF2, hF3, hF4, hF7, hup, ↓ZD, ZU, ne_eq, Zaa, Zab, false_implies, Zac, Zad, Zae, Zaf, Zag, Zah, Zai, Zaj, Zak, Zal, Zam, Zan, Zao, Zap, Zaq, Zar, Zas, Zat, Zau, Zav, Zaw, Zax, Zay, Zaz, Za0, Za1, Za2, Za3, Za4, Za5, Za6, Za7, Za8, Za9, Zba, Zbb, Zbc, Zbd, Zbe, Zbf, Zbg, Zbh, Zbi, Zbj, Zbk, Zbl, Zbm, Zbn, Zbo, Zbp, Zbq, Zbr, Zbs, Zbt, Zbu, Zbv, Zbw, Zbx, Zby, Zbz, Zb0, Zb1, Zb2, decide_true, decide_false, Zb3, Zb4, Zb5, Zb6, Zb7, Zb8, Zb9, Zca, Zcb, Zcc, Zcd, beq_self_eq_true, cond_true, cond_false, if_false, if_true, reduceIte, reduceCtorEq, not_true_eq_false, not_false_eq_true, true_and, and_true, forall_const, false_and, and_false, implies_true, Zce, Zcf, Zcg, Zch, Zci]
                refine CutK.on (b7, _, er, H') ⟨hp, hF7, ⟨hb74, hb73, hb72, hb71⟩, fun e he => hb7x e (List.mem_append_left _ he), fun e he => ⟨hb7x e (List.mem_append_right _ he), hd4 e he, hd3 e he, hd2 e he, hd1 e he⟩, hdx⟩ (by (simp only [Le_nil, Le_cons]; simp (disch := first | assumption | exact Ne.symm (by assumption) | omega) only [↓ZD, ZU, ne_eq, Zaa, Zab, false_implies, Zac, Zad, Zae, Zaf, Zag, Zah, Zai, Zaj, Zak, Zal, Zam, Zan, Zao, Zap, Zaq, Zar, Zas, Zat, Zau, Zav, Zaw, Zax, Zay, Zaz, Za0, Za1, Za2, Za3, Za4, Za5, Za6, Za7, Za8, Za9, Zba, Zbb, Zbc, Zbd, Zbe, Zbf, Zbg, Zbh, Zbi, Zbj, Zbk, Zbl, Zbm, Zbn, Zbo, Zbp, Zbq, Zbr, Zbs, Zbt, Zbu, Zbv, Zbw, Zbx, Zby, Zbz, Zb0, Zb1, Zb2, decide_true, decide_false, Zb3, Zb4, Zb5, Zb6, Zb7, Zb8, Zb9, Zca, Zcb, Zcc, Zcd, beq_self_eq_true, cond_true, cond_false, if_false, if_true, reduceIte, reduceCtorEq, not_true_eq_false, not_false_eq_true, true_and, and_true, forall_const, false_and, and_false, implies_true, Zce, Zcf, Zcg, Zch, Zci]; try trivial)) ⟨by simp (disch := first | assumption | exact Ne.symm (by assumption) | omega) only [↓ZD, ZU, ne_eq, Zaa, Zab, false_implies, Zac, Zad, Zae, Zaf, Zag, Zah, Zai, Zaj, Zak, Zal, Zam, Zan, Zao, Zap, Zaq, Zar, Zas, Zat, Zau, Zav, Zaw, Zax, Zay, Zaz, Za0, Za1, Za2, Za3, Za4, Za5, Za6, Za7, Za8, Za9, Zba, Zbb, Zbc, Zbd, Zbe, Zbf, Zbg, Zbh, Zbi, Zbj, Zbk, Zbl, Zbm, Zbn, Zbo, Zbp, Zbq, Zbr, Zbs, Zbt, Zbu, Zbv, Zbw, Zbx, Zby, Zbz, Zb0, Zb1, Zb2, decide_true, decide_false, Zb3, Zb4, Zb5, Zb6, Zb7, Zb8, Zb9, Zca, Zcb, Zcc, Zcd, beq_self_eq_true, cond_true, cond_false, if_false, if_true, reduceIte, reduceCtorEq, not_true_eq_false, not_false_eq_true, true_and, and_true, forall_const, false_and, and_false, implies_true, Zce, Zcf, Zcg, Zch, Zci], by simp (disch := first | assumption | exact Ne.symm (by assumption) | omega) only [↓ZD, ZU, ne_eq, Zaa, Zab, false_implies, Zac, Zad, Zae, Zaf, Zag, Zah, Zai, Zaj, Zak, Zal, Zam, Zan, Zao, Zap, Zaq, Zar, Zas, Zat, Zau, Zav, Zaw, Zax, Zay, Zaz, Za0, Za1, Za2, Za3, Za4, Za5, Za6, Za7, Za8, Za9, Zba, Zbb, Zbc, Zbd, Zbe, Zbf, Zbg, Zbh, Zbi, Zbj, Zbk, Zbl, Zbm, Zbn, Zbo, Zbp, Zbq, Zbr, Zbs, Zbt, Zbu, Zbv, Zbw, Zbx, Zby, Zbz, Zb0, Zb1, Zb2, decide_true, decide_false, Zb3, Zb4, Zb5, Zb6, Zb7, Zb8, Zb9, Zca, Zcb, Zcc, Zcd, beq_self_eq_true, cond_true, cond_false, if_false, if_true, reduceIte, reduceCtorEq, not_true_eq_false, not_false_eq_true, true_and, and_true, forall_const, false_and, and_false, implies_true, Zce, Zcf, Zcg, Zch, Zci], by simp (disch := first | assumption | exact Ne.symm (by assumption) | omega) only [↓ZD, ZU, ne_eq, Zaa, Zab, false_implies, Zac, Zad, Zae, Zaf, Zag, Zah, Zai, Zaj, Zak, Zal, Zam, Zan, Zao, Zap, Zaq, Zar, Zas, Zat, Zau, Zav, Zaw, Zax, Zay, Zaz, Za0, Za1, Za2, Za3, Za4, Za5, Za6, Za7, Za8, Za9, Zba, Zbb, Zbc, Zbd, Zbe, Zbf, Zbg, Zbh, Zbi, Zbj, Zbk, Zbl, Zbm, Zbn, Zbo, Zbp, Zbq, Zbr, Zbs, Zbt, Zbu, Zbv, Zbw, Zbx, Zby, Zbz, Zb0, Zb1, Zb2, decide_true, decide_false, Zb3, Zb4, Zb5, Zb6, Zb7, Zb8, Zb9, Zca, Zcb, Zcc, Zcd, beq_self_eq_true, cond_true, cond_false, if_false, if_true, reduceIte, reduceCtorEq, not_true_eq_false, not_false_eq_true, true_and, and_true, forall_const, false_and, and_false, implies_true, Zce, Zcf, Zcg, Zch, Zci], by simp (disch := first | assumption | exact Ne.symm (by assumption) | omega) only [↓ZD, ZU, ne_eq, Zaa, Zab, false_implies, Zac, Zad, Zae, Zaf, Zag, Zah, Zai, Zaj, Zak, Zal, Zam, Zan, Zao, Zap, Zaq, Zar, Zas, Zat, Zau, Zav, Zaw, Zax, Zay, Zaz, Za0, Za1, Za2, Za3, Za4, Za5, Za6, Za7, Za8, Za9, Zba, Zbb, Zbc, Zbd, Zbe, Zbf, Zbg, Zbh, Zbi, Zbj, Zbk, Zbl, Zbm, Zbn, Zbo, Zbp, Zbq, Zbr, Zbs, Zbt, Zbu, Zbv, Zbw, Zbx, Zby, Zbz, Zb0, Zb1, Zb2, decide_true, decide_false, Zb3, Zb4, Zb5, Zb6, Zb7, Zb8, Zb9, Zca, Zcb, Zcc, Zcd, beq_self_eq_true, cond_true, cond_false, if_false, if_true, reduceIte, reduceCtorEq, not_true_eq_false, not_false_eq_true, true_and, and_true, forall_const, false_and, and_false, implies_true, Zce, Zcf, Zcg, Zch, Zci], by simp (disch := first | assumption | exact Ne.symm (by assumption) | omega) only [↓ZD, ZU, ne_eq, Zaa, Zab, false_implies, Zac, Zad, Zae, Zaf, Zag, Zah, Zai, Zaj, Zak, Zal, Zam, Zan, Zao, Zap, Zaq, Zar, Zas, Zat, Zau, Zav, Zaw, Zax, Zay, Zaz, Za0, Za1, Za2, Za3, Za4, Za5, Za6, Za7, Za8, Za9, Zba, Zbb, Zbc, Zbd, Zbe, Zbf, Zbg, Zbh, Zbi, Zbj, Zbk, Zbl, Zbm, Zbn, Zbo, Zbp, Zbq, Zbr, Zbs, Zbt, Zbu, Zbv, Zbw, Zbx, Zby, Zbz, Zb0, Zb1, Zb2, decide_true, decide_false, Zb3, Zb4, Zb5, Zb6, Zb7, Zb8, Zb9, Zca, Zcb, Zcc, Zcd, beq_self_eq_true, cond_true, cond_false, if_false, if_true, reduceIte, reduceCtorEq, not_true_eq_false, not_false_eq_true, true_and, and_true, forall_const, false_and, and_false, implies_true, Zce, Zcf, Zcg, Zch, Zci], HLe.of ?_⟩
                refine Okh.lk (A := [_, _, _, _, _]) (hoh.app hp.ok hdx) ?_
                simp only [List.forall_mem_cons]
                refine ⟨hb7x, fun e he => ?_, fun e he => ?_, fun e he => ?_, fun e he => ?_, fun e he => by cases he⟩ <;> rcases List.mem_append.1 he with h | h
                · exact (hap e h).1
                · exact hd4 e h
                · exact (hap e h).2.1
                · exact hd3 e h
                · exact (hap e h).2.2.1
                · exact hd2 e h
                · exact (hap e h).2.2.2
                · exact hd1 e h
              · simp only [List.forall_mem_cons] at hb7
                obtain ⟨hb74, hb73, hb72, hb71, hb7x⟩ := hb7
                simp (disch := first | assumption | exact Ne.symm (by assumption) | omega) only [hF1, hF2, hF3, hF4, hF7, ↓ZD, ZU, ne_eq, Zaa, Zab, false_implies, Zac, Zad, Zae, Zaf, Zag, Zah, Zai, Zaj, Zak, Zal, Zam, Zan, Zao, Zap, Zaq, Zar, Zas, Zat, Zau, Zav, Zaw, Zax, Zay, Zaz, Za0, Za1, Za2, Za3, Za4, Za5, Za6, Za7, Za8, Za9, Zba, Zbb, Zbc, Zbd, Zbe, Zbf, Zbg, Zbh, Zbi, Zbj, Zbk, Zbl, Zbm, Zbn, Zbo, Zbp, Zbq, Zbr, Zbs, Zbt, Zbu, Zbv, Zbw, Zbx, Zby, Zbz, Zb0, Zb1, Zb2, decide_true, decide_false, Zb3, Zb4, Zb5, Zb6, Zb7, Zb8, Zb9, Zca, Zcb, Zcc, Zcd, beq_self_eq_true, cond_true, cond_false, if_false, if_true, reduceIte, reduceCtorEq, not_true_eq_false, not_false_eq_true, true_and, and_true, forall_const, false_and, and_false, implies_true, Zce, Zcf, Zcg, Zch, Zci]
                refine CallN.news (hc.up le_up) ?_
                rintro v' H' ⟨cs, er, rfl, hp⟩ hf' hdd hn'
                obtain ⟨q1, q2, q3, q4, q5, q6, q7, q8, hcs⟩ := hp.form
                rw [hcs] at hp
                rw [hcs]
                simp only [List.forall_mem_cons] at hdd
                obtain ⟨hd7, hd4, hd3, hd2, hd1, hdx⟩ := hdd
                have h7x : ∀ e ∈ Ho ++ Hx ++ H', e.1 ≠ b7 := fun e he => by
                  rcases List.mem_append.1 he with h | h
                  · exact hb7x e h
                  · exact hd7 e h
                have hup : ∀ o, upd (Ho ++ Hx ++ H') b7 o = Ho ++ Hx ++ H' := fun o => upd_new h7x
                simp (disch := first | assumption | exact Ne.symm (by assumption) | omega) only [hF1, hF2, hF3, hF4, hF7, hup, ↓ZD, ZU, ne_eq, Zaa, Zab, false_implies, Zac, Zad, Zae, Zaf, Zag, Zah, Zai, Zaj, Zak, Zal, Zam, Zan, Zao, Zap, Zaq, Zar, Zas, Zat, Zau, Zav, Zaw, Zax, Zay, Zaz, Za0, Za1, Za2, Za3, Za4, Za5, Za6, Za7, Za8, Za9, Zba, Zbb, Zbc, Zbd, Zbe, Zbf, Zbg, Zbh, Zbi, Zbj, Zbk, Zbl, Zbm, Zbn, Zbo, Zbp, Zbq, Zbr, Zbs, Zbt, Zbu, Zbv, Zbw, Zbx, Zby, Zbz, Zb0, Zb1, Zb2, decide_true, decide_false, Zb3, Zb4, Zb5, Zb6, Zb7, Zb8, Zb9, Zca, Zcb, Zcc, Zcd, beq_self_eq_true, cond_true, cond_false, if_false, if_true, reduceIte, reduceCtorEq, not_true_eq_false, not_false_eq_true, true_and, and_true, forall_const, false_and, and_false, implies_true, Zce, Zcf, Zcg, Zch, Zci]
                refine CutK.on (b7, _, er, H') ⟨hp, hF7, ⟨hb74, hb73, hb72, hb71⟩, hb7x, fun e he => ⟨hd7 e he, hd4 e he, hd3 e he, hd2 e he, hd1 e he⟩, hdx⟩ (by (simp only [Le_nil, Le_cons]; simp (disch := first | assumption | exact Ne.symm (by assumption) | omega) only [↓ZD, ZU, ne_eq, Zaa, Zab, false_implies, Zac, Zad, Zae, Zaf, Zag, Zah, Zai, Zaj, Zak, Zal, Zam, Zan, Zao, Zap, Zaq, Zar, Zas, Zat, Zau, Zav, Zaw, Zax, Zay, Zaz, Za0, Za1, Za2, Za3, Za4, Za5, Za6, Za7, Za8, Za9, Zba, Zbb, Zbc, Zbd, Zbe, Zbf, Zbg, Zbh, Zbi, Zbj, Zbk, Zbl, Zbm, Zbn, Zbo, Zbp, Zbq, Zbr, Zbs, Zbt, Zbu, Zbv, Zbw, Zbx, Zby, Zbz, Zb0, Zb1, Zb2, decide_true, decide_false, Zb3, Zb4, Zb5, Zb6, Zb7, Zb8, Zb9, Zca, Zcb, Zcc, Zcd, beq_self_eq_true, cond_true, cond_false, if_false, if_true, reduceIte, reduceCtorEq, not_true_eq_false, not_false_eq_true, true_and, and_true, forall_const, false_and, and_false, implies_true, Zce, Zcf, Zcg, Zch, Zci]; try trivial)) ⟨by simp (disch := first | assumption | exact Ne.symm (by assumption) | omega) only [↓ZD, ZU, ne_eq, Zaa, Zab, false_implies, Zac, Zad, Zae, Zaf, Zag, Zah, Zai, Zaj, Zak, Zal, Zam, Zan, Zao, Zap, Zaq, Zar, Zas, Zat, Zau, Zav, Zaw, Zax, Zay, Zaz, Za0, Za1, Za2, Za3, Za4, Za5, Za6, Za7, Za8, Za9, Zba, Zbb, Zbc, Zbd, Zbe, Zbf, Zbg, Zbh, Zbi, Zbj, Zbk, Zbl, Zbm, Zbn, Zbo, Zbp, Zbq, Zbr, Zbs, Zbt, Zbu, Zbv, Zbw, Zbx, Zby, Zbz, Zb0, Zb1, Zb2, decide_true, decide_false, Zb3, Zb4, Zb5, Zb6, Zb7, Zb8, Zb9, Zca, Zcb, Zcc, Zcd, beq_self_eq_true, cond_true, cond_false, if_false, if_true, reduceIte, reduceCtorEq, not_true_eq_false, not_false_eq_true, true_and, and_true, forall_const, false_and, and_false, implies_true, Zce, Zcf, Zcg, Zch, Zci], by simp (disch := first | assumption | exact Ne.symm (by assumption) | omega) only [↓ZD, ZU, ne_eq, Zaa, Zab, false_implies, Zac, Zad, Zae, Zaf, Zag, Zah, Zai, Zaj, Zak, Zal, Zam, Zan, Zao, Zap, Zaq, Zar, Zas, Zat, Zau, Zav, Zaw, Zax, Zay, Zaz, Za0, Za1, Za2, Za3, Za4, Za5, Za6, Za7, Za8, Za9, Zba, Zbb, Zbc, Zbd, Zbe, Zbf, Zbg, Zbh, Zbi, Zbj, Zbk, Zbl, Zbm, Zbn, Zbo, Zbp, Zbq, Zbr, Zbs, Zbt, Zbu, Zbv, Zbw, Zbx, Zby, Zbz, Zb0, Zb1, Zb2, decide_true, decide_false, Zb3, Zb4, Zb5, Zb6, Zb7, Zb8, Zb9, Zca, Zcb, Zcc, Zcd, beq_self_eq_true, cond_true, cond_false, if_false, if_true, reduceIte, reduceCtorEq, not_true_eq_false, not_false_eq_true, true_and, and_true, forall_const, false_and, and_false, implies_true, Zce, Zcf, Zcg, Zch, Zci], by simp (disch := first | assumption | exact Ne.symm (by assumption) | omega) only [↓ZD, ZU, ne_eq, Zaa, Zab, false_implies, Zac, Zad, Zae, Zaf, Zag, Zah, Zai, Zaj, Zak, Zal, Zam, Zan, Zao, Zap, Zaq, Zar, Zas, Zat, Zau, Zav, Zaw, Zax, Zay, Zaz, Za0, Za1, Za2, Za3, Za4, Za5, Za6, Za7, Za8, Za9, Zba, Zbb, Zbc, Zbd, Zbe, Zbf, Zbg, Zbh, Zbi, Zbj, Zbk, Zbl, Zbm, Zbn, Zbo, Zbp, Zbq, Zbr, Zbs, Zbt, Zbu, Zbv, Zbw, Zbx, Zby, Zbz, Zb0, Zb1, Zb2, decide_true, decide_false, Zb3, Zb4, Zb5, Zb6, Zb7, Zb8, Zb9, Zca, Zcb, Zcc, Zcd, beq_self_eq_true, cond_true, cond_false, if_false, if_true, reduceIte, reduceCtorEq, not_true_eq_false, not_false_eq_true, true_and, and_true, forall_const, false_and, and_false, implies_true, Zce, Zcf, Zcg, Zch, Zci], by simp (disch := first | assumption | exact Ne.symm (by assumption) | omega) only [↓ZD, ZU, ne_eq, Zaa, Zab, false_implies, Zac, Zad, Zae, Zaf, Zag, Zah, Zai, Zaj, Zak, Zal, Zam, Zan, Zao, Zap, Zaq, Zar, Zas, Zat, Zau, Zav, Zaw, Zax, Zay, Zaz, Za0, Za1, Za2, Za3, Za4, Za5, Za6, Za7, Za8, Za9, Zba, Zbb, Zbc, Zbd, Zbe, Zbf, Zbg, Zbh, Zbi, Zbj, Zbk, Zbl, Zbm, Zbn, Zbo, Zbp, Zbq, Zbr, Zbs, Zbt, Zbu, Zbv, Zbw, Zbx, Zby, Zbz, Zb0, Zb1, Zb2, decide_true, decide_false, Zb3, Zb4, Zb5, Zb6, Zb7, Zb8, Zb9, Zca, Zcb, Zcc, Zcd, beq_self_eq_true, cond_true, cond_false, if_false, if_true, reduceIte, reduceCtorEq, not_true_eq_false, not_false_eq_true, true_and, and_true, forall_const, false_and, and_false, implies_true, Zce, Zcf, Zcg, Zch, Zci], by simp (disch := first | assumption | exact Ne.symm (by assumption) | omega) only [↓ZD, ZU, ne_eq, Zaa, Zab, false_implies, Zac, Zad, Zae, Zaf, Zag, Zah, Zai, Zaj, Zak, Zal, Zam, Zan, Zao, Zap, Zaq, Zar, Zas, Zat, Zau, Zav, Zaw, Zax, Zay, Zaz, Za0, Za1, Za2, Za3, Za4, Za5, Za6, Za7, Za8, Za9, Zba, Zbb, Zbc, Zbd, Zbe, Zbf, Zbg, Zbh, Zbi, Zbj, Zbk, Zbl, Zbm, Zbn, Zbo, Zbp, Zbq, Zbr, Zbs, Zbt, Zbu, Zbv, Zbw, Zbx, Zby, Zbz, Zb0, Zb1, Zb2, decide_true, decide_false, Zb3, Zb4, Zb5, Zb6, Zb7, Zb8, Zb9, Zca, Zcb, Zcc, Zcd, beq_self_eq_true, cond_true, cond_false, if_false, if_true, reduceIte, reduceCtorEq, not_true_eq_false, not_false_eq_true, true_and, and_true, forall_const, false_and, and_false, implies_true, Zce, Zcf, Zcg, Zch, Zci], HLe.of ?_⟩
                refine Okh.lk (A := [_, _, _, _, _]) (hoh.app hp.ok hdx) ?_
                simp only [List.forall_mem_cons]
                refine ⟨h7x, fun e he => ?_, fun e he => ?_, fun e he => ?_, fun e he => ?_, fun e he => by cases he⟩ <;> rcases List.mem_append.1 he with h | h
                · exact (hap e h).1
                · exact hd4 e h
                · exact (hap e h).2.1
                · exact hd3 e h
                · exact (hap e h).2.2.1
                · exact hd2 e h
                · exact (hap e h).2.2.2
                · exact hd1 e h
            · rintro ⟨b7, cs, er, H'⟩ ⟨hp, hF7, hb7, hx7, hd0, hd1⟩
              simp only at hp hF7 hb7 hx7 hd0 hd1
              obtain ⟨_, _, _, _⟩ := hb7
              obtain ⟨q1, q2, q3, q4, q5, q6, q7, q8, hcs⟩ := hp.form
              rw [hcs] at hp
              rw [hcs]
              simp (disch := first | assumption | exact Ne.symm (by assumption) | omega) only [hF3, hF4, hF7, ↓ZD, ZU, ne_eq, Zaa, Zab, false_implies, Zac, Zad, Zae, Zaf, Zag, Zah, Zai, Zaj, Zak, Zal, Zam, Zan, Zao, Zap, Zaq, Zar, Zas, Zat, Zau, Zav, Zaw, Zax, Zay, Zaz, Za0, Za1, Za2, Za3, Za4, Za5, Za6, Za7, Za8, Za9, Zba, Zbb, Zbc, Zbd, Zbe, Zbf, Zbg, Zbh, Zbi, Zbj, Zbk, Zbl, Zbm, Zbn, Zbo, Zbp, Zbq, Zbr, Zbs, Zbt, Zbu, Zbv, Zbw, Zbx, Zby, Zbz, Zb0, Zb1, Zb2, decide_true, decide_false, Zb3, Zb4, Zb5, Zb6, Zb7, Zb8, Zb9, Zca, Zcb, Zcc, Zcd, beq_self_eq_true, cond_true, cond_false, if_false, if_true, reduceIte, reduceCtorEq, not_true_eq_false, not_false_eq_true, true_and, and_true, forall_const, false_and, and_false, implies_true, Zce, Zcf, Zcg, Zch, Zci]
              have hq7 : ∀ e ∈ Ho ++ Hx ++ H', e.1 ≠ b7 := fun e he => by
                rcases List.mem_append.1 he with h | h
                · exact hx7 e h
                · exact (hd0 e h).1
              have hq4 : ∀ e ∈ Ho ++ Hx ++ H', e.1 ≠ b4 := fun e he => by
                rcases List.mem_append.1 he with h | h
                · exact (hap e h).1
                · exact (hd0 e h).2.1
              have hq3 : ∀ e ∈ Ho ++ Hx ++ H', e.1 ≠ b3 := fun e he => by
                rcases List.mem_append.1 he with h | h
                · exact (hap e h).2.1
                · exact (hd0 e h).2.2.1
              have hq2 : ∀ e ∈ Ho ++ Hx ++ H', e.1 ≠ b2 := fun e he => by
                rcases List.mem_append.1 he with h | h
                · exact (hap e h).2.2.1
                · exact (hd0 e h).2.2.2.1
              have hq1 : ∀ e ∈ Ho ++ Hx ++ H', e.1 ≠ b1 := fun e he => by
                rcases List.mem_append.1 he with h | h
                · exact (hap e h).2.2.2
                · exact (hd0 e h).2.2.2.2
              refine ⟨fun he => ?_, fun he => ?_⟩
              · refine ⟨[], by simp, _, _, rfl, ?_⟩
                rw [← hJ]
                cases hj : join xt yt with
                | none =>
                  rw [hj] at hp
                  rw [joinA, hj] at hja
                  rw [hja]
                  exact ⟨rfl, hp.2.1, rfl⟩
                | some u => rw [hj] at hp; rw [hp.1] at he; cases he
              cases hj : join xt yt with
              | none => rw [hj] at hp; rw [hp.2.1] at he; cases he
              | some u =>
                rw [hj] at hp
                rw [joinA, hj] at hja
                have hoh' : Okh (Ho ++ Hx ++ H') := Okh.app hoh hp.2.2 hd1
                refine conj.of (by omega) ?_
                simp (disch := first | assumption | exact Ne.symm (by assumption) | omega) only [hF3, hF4, hF7, hd, hd', ↓k3a, ↓k4a, ↓k5a, Int.toNat_natCast, ↓ZD, ZU, ne_eq, Zaa, Zab, false_implies, Zac, Zad, Zae, Zaf, Zag, Zah, Zai, Zaj, Zak, Zal, Zam, Zan, Zao, Zap, Zaq, Zar, Zas, Zat, Zau, Zav, Zaw, Zax, Zay, Zaz, Za0, Za1, Za2, Za3, Za4, Za5, Za6, Za7, Za8, Za9, Zba, Zbb, Zbc, Zbd, Zbe, Zbf, Zbg, Zbh, Zbi, Zbj, Zbk, Zbl, Zbm, Zbn, Zbo, Zbp, Zbq, Zbr, Zbs, Zbt, Zbu, Zbv, Zbw, Zbx, Zby, Zbz, Zb0, Zb1, Zb2, decide_true, decide_false, Zb3, Zb4, Zb5, Zb6, Zb7, Zb8, Zb9, Zca, Zcb, Zcc, Zcd, beq_self_eq_true, cond_true, cond_false, if_false, if_true, reduceIte, reduceCtorEq, not_true_eq_false, not_false_eq_true, true_and, and_true, forall_const, false_and, and_false, implies_true, Zce, Zcf, Zcg, Zch, Zci]
                refine conj.of (by omega) ?_
                simp (disch := first | assumption | exact Ne.symm (by assumption) | omega) only [hF3, hF4, hF7, hd, hd', ↓k3a, ↓k4a, ↓k5a, Int.toNat_natCast, ↓ZD, ZU, ne_eq, Zaa, Zab, false_implies, Zac, Zad, Zae, Zaf, Zag, Zah, Zai, Zaj, Zak, Zal, Zam, Zan, Zao, Zap, Zaq, Zar, Zas, Zat, Zau, Zav, Zaw, Zax, Zay, Zaz, Za0, Za1, Za2, Za3, Za4, Za5, Za6, Za7, Za8, Za9, Zba, Zbb, Zbc, Zbd, Zbe, Zbf, Zbg, Zbh, Zbi, Zbj, Zbk, Zbl, Zbm, Zbn, Zbo, Zbp, Zbq, Zbr, Zbs, Zbt, Zbu, Zbv, Zbw, Zbx, Zby, Zbz, Zb0, Zb1, Zb2, decide_true, decide_false, Zb3, Zb4, Zb5, Zb6, Zb7, Zb8, Zb9, Zca, Zcb, Zcc, Zcd, beq_self_eq_true, cond_true, cond_false, if_false, if_true, reduceIte, reduceCtorEq, not_true_eq_false, not_false_eq_true, true_and, and_true, forall_const, false_and, and_false, implies_true, Zce, Zcf, Zcg, Zch, Zci]
                refine conj.of (fun _ => by omega) ?_
                simp (disch := first | assumption | exact Ne.symm (by assumption) | omega) only [hF3, hF4, hF7, hd, hd', ↓k3a, ↓k4a, ↓k5a, Int.toNat_natCast, ↓ZD, ZU, ne_eq, Zaa, Zab, false_implies, Zac, Zad, Zae, Zaf, Zag, Zah, Zai, Zaj, Zak, Zal, Zam, Zan, Zao, Zap, Zaq, Zar, Zas, Zat, Zau, Zav, Zaw, Zax, Zay, Zaz, Za0, Za1, Za2, Za3, Za4, Za5, Za6, Za7, Za8, Za9, Zba, Zbb, Zbc, Zbd, Zbe, Zbf, Zbg, Zbh, Zbi, Zbj, Zbk, Zbl, Zbm, Zbn, Zbo, Zbp, Zbq, Zbr, Zbs, Zbt, Zbu, Zbv, Zbw, Zbx, Zby, Zbz, Zb0, Zb1, Zb2, decide_true, decide_false, Zb3, Zb4, Zb5, Zb6, Zb7, Zb8, Zb9, Zca, Zcb, Zcc, Zcd, beq_self_eq_true, cond_true, cond_false, if_false, if_true, reduceIte, reduceCtorEq, not_true_eq_false, not_false_eq_true, true_and, and_true, forall_const, false_and, and_false, implies_true, Zce, Zcf, Zcg, Zch, Zci]
                refine NewB.of fun b8 hb8 hF8 => ?_
                simp only [List.forall_mem_cons] at hb8
                obtain ⟨_, _, _, _, _, hb8⟩ := hb8
                have hup2 : ∀ o, upd (Ho ++ Hx ++ H') b8 o = Ho ++ Hx ++ H' := fun o => upd_new hb8
                simp (disch := first | assumption | exact Ne.symm (by assumption) | omega) only [hF3, hF4, hF7, hF8, hup2, ↓ZD, ZU, ne_eq, Zaa, Zab, false_implies, Zac, Zad, Zae, Zaf, Zag, Zah, Zai, Zaj, Zak, Zal, Zam, Zan, Zao, Zap, Zaq, Zar, Zas, Zat, Zau, Zav, Zaw, Zax, Zay, Zaz, Za0, Za1, Za2, Za3, Za4, Za5, Za6, Za7, Za8, Za9, Zba, Zbb, Zbc, Zbd, Zbe, Zbf, Zbg, Zbh, Zbi, Zbj, Zbk, Zbl, Zbm, Zbn, Zbo, Zbp, Zbq, Zbr, Zbs, Zbt, Zbu, Zbv, Zbw, Zbx, Zby, Zbz, Zb0, Zb1, Zb2, decide_true, decide_false, Zb3, Zb4, Zb5, Zb6, Zb7, Zb8, Zb9, Zca, Zcb, Zcc, Zcd, beq_self_eq_true, cond_true, cond_false, if_false, if_true, reduceIte, reduceCtorEq, not_true_eq_false, not_false_eq_true, true_and, and_true, forall_const, false_and, and_false, implies_true, Zce, Zcf, Zcg, Zch, Zci]
                refine EfL.grow (Hr := (b4, .cells #[.int .i64 8, .string (bs []), .slice none 0 0, v] 25 (0, 0)) :: (b3, .cells #[.int .i64 0, .string (bs []), .slice none 0 0, .slice none 0 0] 25 (0, 0)) ::
                  (b2, .cells #[.int .i64 8, .string (bs nm'), .slice a1' es'.length c1', .slice (some ⟨bb, ob, none⟩) ats'.length c2'] 25 (0, 0)) :: (b1, .cells #[.int .i64 8, .string (bs nm), .slice a1 es.length c1, .slice (some ⟨ba, oa, none⟩) ats.length c2] 25 (0, 0)) :: (Hx ++ H'))
                  (m := 1) (nw := [.string (bs xn), .int .i64 q1, .string (bs q2), .slice q3 q4 q5, .slice q6 q7 q8, .bool (xo || yo)]) ho ?_ ?_ ?_ ?_ rfl (by simp [oneCell]) (by simp) (by omega) ?_
                · intro e he
                  refine (Okh.lk (A := [_, _, _, _, _, _]) hoh' ?_) e (by simp [he])
                  simp only [List.forall_mem_cons]
                  exact ⟨hb8, hq7, hq4, hq3, hq2, hq1, fun e he => by cases he⟩
                · intro e he
                  simp only [List.mem_cons, List.mem_append] at he ⊢
                  rcases he with h | h | h | h | h | h <;> simp [h]
                · simp only [List.forall_mem_cons]
                  refine ⟨fun e he => (hap e (by simp [he])).1, fun e he => (hap e (by simp [he])).2.1, fun e he => (hap e (by simp [he])).2.2.1, fun e he => (hap e (by simp [he])).2.2.2, fun e' he' e he => ?_⟩
                  rcases List.mem_append.1 he' with h | h
                  · exact (had e he e' h).symm
                  · exact (hd1 e (by simp [he]) e' h).symm
                · simp (disch := first | assumption | exact Ne.symm (by assumption) | omega) only [hF8, ↓ZD, ZU, ne_eq, Zaa, Zab, false_implies, Zac, Zad, Zae, Zaf, Zag, Zah, Zai, Zaj, Zak, Zal, Zam, Zan, Zao, Zap, Zaq, Zar, Zas, Zat, Zau, Zav, Zaw, Zax, Zay, Zaz, Za0, Za1, Za2, Za3, Za4, Za5, Za6, Za7, Za8, Za9, Zba, Zbb, Zbc, Zbd, Zbe, Zbf, Zbg, Zbh, Zbi, Zbj, Zbk, Zbl, Zbm, Zbn, Zbo, Zbp, Zbq, Zbr, Zbs, Zbt, Zbu, Zbv, Zbw, Zbx, Zby, Zbz, Zb0, Zb1, Zb2, decide_true, decide_false, Zb3, Zb4, Zb5, Zb6, Zb7, Zb8, Zb9, Zca, Zcb, Zcc, Zcd, beq_self_eq_true, cond_true, cond_false, if_false, if_true, reduceIte, reduceCtorEq, not_true_eq_false, not_false_eq_true, true_and, and_true, forall_const, false_and, and_false, implies_true, Zce, Zcf, Zcg, Zch, Zci]
                · intro b9 cap sp hs3 hc2 hcm hF9 hne9
                  simp only [List.forall_mem_cons] at hne9
                  obtain ⟨_, _, _, _, hne9⟩ := hne9
                  have hoh3 : Okh (Hx ++ H') := Okh.app hox hp.2.2 fun e' he' e he => hd1 e' (by simp [he']) e he
                  have hq : ∀ e ∈ Hx ++ H', e ∈ Ho ++ Hx ++ H' := fun e he => by
                    rcases List.mem_append.1 he with h | h <;> simp [h]
                  have hup3 : ∀ o, upd (Hx ++ H') b4 o = Hx ++ H' := fun o => upd_new fun e he => hq4 e (hq e he)
                  have hlr : rows.length = r.length * 6 := by
                    rcases ho.out with ⟨rfl, h, -⟩ | ⟨_, _, _, _, _, _, h, _⟩
                    · rw [hrl, h]; rfl
                    · rw [hrl]; exact h
                  simp (disch := first | assumption | exact Ne.symm (by assumption) | omega) only [hF4, hF9, hup3, ↓ZD, ZU, ne_eq, Zaa, Zab, false_implies, Zac, Zad, Zae, Zaf, Zag, Zah, Zai, Zaj, Zak, Zal, Zam, Zan, Zao, Zap, Zaq, Zar, Zas, Zat, Zau, Zav, Zaw, Zax, Zay, Zaz, Za0, Za1, Za2, Za3, Za4, Za5, Za6, Za7, Za8, Za9, Zba, Zbb, Zbc, Zbd, Zbe, Zbf, Zbg, Zbh, Zbi, Zbj, Zbk, Zbl, Zbm, Zbn, Zbo, Zbp, Zbq, Zbr, Zbs, Zbt, Zbu, Zbv, Zbw, Zbx, Zby, Zbz, Zb0, Zb1, Zb2, decide_true, decide_false, Zb3, Zb4, Zb5, Zb6, Zb7, Zb8, Zb9, Zca, Zcb, Zcc, Zcd, beq_self_eq_true, cond_true, cond_false, if_false, if_true, reduceIte, reduceCtorEq, not_true_eq_false, not_false_eq_true, true_and, and_true, forall_const, false_and, and_false, implies_true, Zce, Zcf, Zcg, Zch, Zci]
                  refine invK.on (i + 1, r ++ [(xn, u, xo || yo)], rows ++ [.string (bs xn), .int .i64 q1, .string (bs q2), .slice q3 q4 q5, .slice q6 q7 q8, .bool (xo || yo)], .slice (some ⟨b9, 0, none⟩) (i + 1) cap, [(b9, .cells (rows ++ ([.string (bs xn), .int .i64 q1, .string (bs q2), .slice q3 q4 q5, .slice q6 q7 q8, .bool (xo || yo)] : List Value) ++ sp).toArray 30 (0, 0))], Hx ++ H')
                    ⟨?_, ?_, ?_, OwnS.mk sp hF9 rfl rfl ?_ hs3 hc2 hcm, ?_, hoh3, ?_, ?_⟩ (by simp only; omega) (by (simp only [Le_nil, Le_cons]; simp (disch := first | assumption | exact Ne.symm (by assumption) | omega) only [↓ZD, ZU, ne_eq, Zaa, Zab, false_implies, Zac, Zad, Zae, Zaf, Zag, Zah, Zai, Zaj, Zak, Zal, Zam, Zan, Zao, Zap, Zaq, Zar, Zas, Zat, Zau, Zav, Zaw, Zax, Zay, Zaz, Za0, Za1, Za2, Za3, Za4, Za5, Za6, Za7, Za8, Za9, Zba, Zbb, Zbc, Zbd, Zbe, Zbf, Zbg, Zbh, Zbi, Zbj, Zbk, Zbl, Zbm, Zbn, Zbo, Zbp, Zbq, Zbr, Zbs, Zbt, Zbu, Zbv, Zbw, Zbx, Zby, Zbz, Zb0, Zb1, Zb2, decide_true, decide_false, Zb3, Zb4, Zb5, Zb6, Zb7, Zb8, Zb9, Zca, Zcb, Zcc, Zcd, beq_self_eq_true, cond_true, cond_false, if_false, if_true, reduceIte, reduceCtorEq, not_true_eq_false, not_false_eq_true, true_and, and_true, forall_const, false_and, and_false, implies_true, Zce, Zcf, Zcg, Zch, Zci]; try trivial)) ?_
                  · simp only; omega
                  · simp [hrl]
                  · rw [hja]
                    simp [Option.map_map, Function.comp_def]
                  · simp [hlr, hrl]; omega
                  · exact (hrw.mono fun b o h => hext_app b o h).snoc hlr (hp.2.1.mono fun b o h => rdObj_app (fun e' he' e he => hd1 e' (by simp [he']) e he) h) nx
                  · intro e he
                    simp only [List.cons_append, List.nil_append, List.mem_cons] at he
                    rcases he with rfl | he
                    · exact ⟨Ne.symm (by assumption), Ne.symm (by assumption), Ne.symm (by assumption), Ne.symm (by assumption)⟩
                    · exact ⟨hq4 e (hq e he), hq3 e (hq e he), hq2 e (hq e he), hq1 e (hq e he)⟩
                  · simp only [List.forall_mem_cons]
                    exact ⟨hne9, fun e' he' => by cases he'⟩
                  · simp only [List.cons_append, List.nil_append]
                    refine ⟨by simp (disch := first | assumption | exact Ne.symm (by assumption) | omega) only [↓ZD, ZU, ne_eq, Zaa, Zab, false_implies, Zac, Zad, Zae, Zaf, Zag, Zah, Zai, Zaj, Zak, Zal, Zam, Zan, Zao, Zap, Zaq, Zar, Zas, Zat, Zau, Zav, Zaw, Zax, Zay, Zaz, Za0, Za1, Za2, Za3, Za4, Za5, Za6, Za7, Za8, Za9, Zba, Zbb, Zbc, Zbd, Zbe, Zbf, Zbg, Zbh, Zbi, Zbj, Zbk, Zbl, Zbm, Zbn, Zbo, Zbp, Zbq, Zbr, Zbs, Zbt, Zbu, Zbv, Zbw, Zbx, Zby, Zbz, Zb0, Zb1, Zb2, decide_true, decide_false, Zb3, Zb4, Zb5, Zb6, Zb7, Zb8, Zb9, Zca, Zcb, Zcc, Zcd, beq_self_eq_true, cond_true, cond_false, if_false, if_true, reduceIte, reduceCtorEq, not_true_eq_false, not_false_eq_true, true_and, and_true, forall_const, false_and, and_false, implies_true, Zce, Zcf, Zcg, Zch, Zci], by simp (disch := first | assumption | exact Ne.symm (by assumption) | omega) only [↓ZD, ZU, ne_eq, Zaa, Zab, false_implies, Zac, Zad, Zae, Zaf, Zag, Zah, Zai, Zaj, Zak, Zal, Zam, Zan, Zao, Zap, Zaq, Zar, Zas, Zat, Zau, Zav, Zaw, Zax, Zay, Zaz, Za0, Za1, Za2, Za3, Za4, Za5, Za6, Za7, Za8, Za9, Zba, Zbb, Zbc, Zbd, Zbe, Zbf, Zbg, Zbh, Zbi, Zbj, Zbk, Zbl, Zbm, Zbn, Zbo, Zbp, Zbq, Zbr, Zbs, Zbt, Zbu, Zbv, Zbw, Zbx, Zby, Zbz, Zb0, Zb1, Zb2, decide_true, decide_false, Zb3, Zb4, Zb5, Zb6, Zb7, Zb8, Zb9, Zca, Zcb, Zcc, Zcd, beq_self_eq_true, cond_true, cond_false, if_false, if_true, reduceIte, reduceCtorEq, not_true_eq_false, not_false_eq_true, true_and, and_true, forall_const, false_and, and_false, implies_true, Zce, Zcf, Zcg, Zch, Zci], by simp (disch := first | assumption | exact Ne.symm (by assumption) | omega) only [↓ZD, ZU, ne_eq, Zaa, Zab, false_implies, Zac, Zad, Zae, Zaf, Zag, Zah, Zai, Zaj, Zak, Zal, Zam, Zan, Zao, Zap, Zaq, Zar, Zas, Zat, Zau, Zav, Zaw, Zax, Zay, Zaz, Za0, Za1, Za2, Za3, Za4, Za5, Za6, Za7, Za8, Za9, Zba, Zbb, Zbc, Zbd, Zbe, Zbf, Zbg, Zbh, Zbi, Zbj, Zbk, Zbl, Zbm, Zbn, Zbo, Zbp, Zbq, Zbr, Zbs, Zbt, Zbu, Zbv, Zbw, Zbx, Zby, Zbz, Zb0, Zb1, Zb2, decide_true, decide_false, Zb3, Zb4, Zb5, Zb6, Zb7, Zb8, Zb9, Zca, Zcb, Zcc, Zcd, beq_self_eq_true, cond_true, cond_false, if_false, if_true, reduceIte, reduceCtorEq, not_true_eq_false, not_false_eq_true, true_and, and_true, forall_const, false_and, and_false, implies_true, Zce, Zcf, Zcg, Zch, Zci], by simp (disch := first | assumption | exact Ne.symm (by assumption) | omega) only [↓ZD, ZU, ne_eq, Zaa, Zab, false_implies, Zac, Zad, Zae, Zaf, Zag, Zah, Zai, Zaj, Zak, Zal, Zam, Zan, Zao, Zap, Zaq, Zar, Zas, Zat, Zau, Zav, Zaw, Zax, Zay, Zaz, Za0, Za1, Za2, Za3, Za4, Za5, Za6, Za7, Za8, Za9, Zba, Zbb, Zbc, Zbd, Zbe, Zbf, Zbg, Zbh, Zbi, Zbj, Zbk, Zbl, Zbm, Zbn, Zbo, Zbp, Zbq, Zbr, Zbs, Zbt, Zbu, Zbv, Zbw, Zbx, Zby, Zbz, Zb0, Zb1, Zb2, decide_true, decide_false, Zb3, Zb4, Zb5, Zb6, Zb7, Zb8, Zb9, Zca, Zcb, Zcc, Zcd, beq_self_eq_true, cond_true, cond_false, if_false, if_true, reduceIte, reduceCtorEq, not_true_eq_false, not_false_eq_true, true_and, and_true, forall_const, false_and, and_false, implies_true, Zce, Zcf, Zcg, Zch, Zci], by simp (disch := first | assumption | exact Ne.symm (by assumption) | omega) only [↓ZD, ZU, ne_eq, Zaa, Zab, false_implies, Zac, Zad, Zae, Zaf, Zag, Zah, Zai, Zaj, Zak, Zal, Zam, Zan, Zao, Zap, Zaq, Zar, Zas, Zat, Zau, Zav, Zaw, Zax, Zay, Zaz, Za0, Za1, Za2, Za3, Za4, Za5, Za6, Za7, Za8, Za9, Zba, Zbb, Zbc, Zbd, Zbe, Zbf, Zbg, Zbh, Zbi, Zbj, Zbk, Zbl, Zbm, Zbn, Zbo, Zbp, Zbq, Zbr, Zbs, Zbt, Zbu, Zbv, Zbw, Zbx, Zby, Zbz, Zb0, Zb1, Zb2, decide_true, decide_false, Zb3, Zb4, Zb5, Zb6, Zb7, Zb8, Zb9, Zca, Zcb, Zcc, Zcd, beq_self_eq_true, cond_true, cond_false, if_false, if_true, reduceIte, reduceCtorEq, not_true_eq_false, not_false_eq_true, true_and, and_true, forall_const, false_and, and_false, implies_true, Zce, Zcf, Zcg, Zch, Zci], HLe.of ?_⟩
                    refine Okh.lk (A := [_, _, _, _, _]) hoh3 ?_
                    simp only [List.forall_mem_cons]
                    exact ⟨hne9, fun e he => hq4 e (hq e he), fun e he => hq3 e (hq e he), fun e he => hq2 e (hq e he), fun e he => hq1 e (hq e he), fun e he => by cases he⟩
          · have hd : decide ((i : Int) < (ats.length : Int)) = false := by simp; omega
            obtain rfl : i = ats.length := by omega
            rw [List.drop_eq_nil_of_le (by omega), List.drop_eq_nil_of_le (by omega), show joinA [] [] = some [] from by simp [joinA]] at hja
            simp only [Option.map_some, List.append_nil] at hja
            have hup : ∀ o, upd (Ho ++ Hx) b3 o = Ho ++ Hx := fun o => upd_new fun e he => (hap e he).2.1
            obtain ⟨_, _, _, _⟩ := hb4
            obtain ⟨_, _, _⟩ := hb3
            obtain ⟨_, _⟩ := hb2
            obtain ⟨base, cap, rfl, hcap⟩ := ho.len_le
            simp (disch := first | assumption | exact Ne.symm (by assumption) | omega) only [hF3, hF4, hd, hup, ↓ZD, ZU, ne_eq, Zaa, Zab, false_implies, Zac, Zad, Zae, Zaf, Zag, Zah, Zai, Zaj, Zak, Zal, Zam, Zan, Zao, Zap, Zaq, Zar, Zas, Zat, Zau, Zav, Zaw, Zax, Zay, Zaz, Za0, Za1, Za2, Za3, Za4, Za5, Za6, Za7, Za8, Za9, Zba, Zbb, Zbc, Zbd, Zbe, Zbf, Zbg, Zbh, Zbi, Zbj, Zbk, Zbl, Zbm, Zbn, Zbo, Zbp, Zbq, Zbr, Zbs, Zbt, Zbu, Zbv, Zbw, Zbx, Zby, Zbz, Zb0, Zb1, Zb2, decide_true, decide_false, Zb3, Zb4, Zb5, Zb6, Zb7, Zb8, Zb9, Zca, Zcb, Zcc, Zcd, beq_self_eq_true, cond_true, cond_false, if_false, if_true, reduceIte, reduceCtorEq, not_true_eq_false, not_false_eq_true, true_and, and_true, forall_const, false_and, and_false, implies_true, Zce, Zcf, Zcg, Zch, Zci]
            rw [hja, Option.map_some] at hJ
            subst hJ
            refine ⟨Ho ++ Hx, by intro e he; simp at he; simp [he], _, _, rfl, rfl, ?_, hoh⟩
            rcases ho.out with ⟨rfl, h0, hv, rfl⟩ | ⟨b, cap, sp, hv, rfl, hFb, hl, hs, hc, hm⟩
            all_goals rw [hv]
            · obtain rfl : r = [] := List.eq_nil_of_length_eq_zero (by omega)
              exact RepT.mk 8 [] none 0 none 0 [] [] (fun _ => []) (fun _ => []) (by omega) (by simp) (by simp) (by simp) (by simp) (by simp) (by simp) (by simp) (by simp) (by simp)
            · have h := rep_rec (G := rdObj F ([(b, .cells (rows ++ sp).toArray 30 (0, 0))] ++ Hx)) (b := b) (cap := cap) (r := r) (rows := rows) (sp := sp) (by simp [rdObj, hFb, lk]) (hrw.mono fun b o h => rdObj_app had h) (by rw [hrl]; exact hl) (by omega) (by omega)
              rw [hrl] at h
              exact h
end Go.Proofs.Ytdljgcicncegkaa
