/- Layer 12: what is found by its name: actions, and the reference's. -/
import Derived.Test.YtnnieekbklmgdaaDoorSyB
namespace Go.Proofs.YtnnieekbklmgdaaDoor
open Go Go.Eng
open Int renaming reduceEq → Zaa, reduceToNat → Zaw, reduceLE → Zax, reduceLT → Zay, reduceAdd → Zaz, reduceSub → Za0, reduceNeg → Za1, reducePow → Za3, reduceNegSucc → Za5
open UInt8 renaming reduceOfNat → Zab
open Go.Eng renaming subG → Zac, lit → Zad, isPar → Zae, numb → Zaf, Wf → Zag, resV → Zah, oneCell → Zai, isB → Zaj, asB → Zak
open List renaming mapM_cons → Zal, mapM_nil → Zam
open Go.Value renaming cells → Zan
open Nat renaming reduceAdd → Zao, reduceMul → Zap, reduceMod → Zaq, reduceDiv → Zar, reduceEqDiff → Zas, reduceBEq → Zat, reduceLeDiff → Zau, reduceSub → Zav, reducePow → Za2, reduceLT → Za4
set_option linter.unusedSimpArgs false
set_option linter.unusedVariables false
set_option maxRecDepth 20000

/-- What is found of a name: itself, or nothing. -/
theorem action_pure (F : Base) {ch : List Value} {s : Sch} (h : RepH F ch s) (nm : Str) :
    ∃ cs, RepC F cs (if acI s nm < 0 then nilC else s.acts.getD (acI s nm).toNat nilC) ∧ PureV Tryd.prog F 13 #[.agg ch.toArray, .string (bs nm)] (.tuple #[.agg cs.toArray, .bool (decide (0 ≤ acI s nm))]) := by
  cases h with
  | mk a1 a2 c1 c2 ts xs g1 g2 hc1 hc2 hl1 hl2 h1 h2 =>
    have hfi := idxI_isFst (fun t : AC => t.id == nm) nilC xs
    have hge := idxI_ge (fun t : AC => t.id == nm) xs
    have hidx : ∀ b T (H : Hp), rdObj F H b = some (.cells #[.string (bs nm)] T (0, 0)) → _ := fun b T H hb => idxC_pure (rdObj F H) (c := c2) (h2.mono le_up) hl2 nm b T hb
    unfold acI
    simp only
    revert hfi hge hidx
    generalize idxI (fun t : AC => t.id == nm) xs = r
    intro hfi hge hidx
    by_cases h0 : r < 0
    · have hd : decide (r < 0) = true := by simpa using h0
      have hd2 : decide (0 ≤ r) = false := by simp; omega
      rw [if_pos h0]
      refine ⟨[.string (bs []), .slice none 0 0, .slice none 0 0, .slice none 0 0, .slice none 0 0], ⟨_, _, _, _, rfl, by simp [nilC], ⟨none, 0, rfl, by simp [nilC], by simp [nilC], by simp [nilC, HasS]⟩, ⟨none, 0, rfl, by simp [nilC], by simp [nilC], by simp [nilC, HasS]⟩, ⟨none, 0, rfl, by simp [nilC], by simp [nilC], by simp [nilC, HasS]⟩, ⟨none, 0, fun _ => [], rfl, by simp [nilC], by simp [nilC], by simp [nilC, HasA], by simp [nilC]⟩⟩, ?_⟩
      refine pureV_of_svc mixed Tryd.func13 low13 (Nat.le_of_ble_eq_true rfl) (fun w0 => ?_)
      simp (disch := first | assumption | exact Ne.symm (by assumption) | omega) only [fu13, ↓ZD, ZU, ne_eq, Zaa, Zab, false_implies, Zac, Zad, Zae, Zaf, Zag, Zah, Zai, Zaj, Zak, Zal, Zam, Zan, Zao, Zap, Zaq, Zar, Zas, Zat, Zau, Zav, Zaw, Zax, Zay, Zaz, Za0, Za1, decide_true, decide_false, beq_self_eq_true, cond_true, cond_false, if_false, if_true, reduceIte, reduceCtorEq, not_true_eq_false, not_false_eq_true, true_and, and_true, forall_const, false_and, and_false, implies_true, Za2, Za3, Za4, Za5]
      refine NewB.of fun b1 hb1 hF1 => ?_
      simp (disch := first | assumption | exact Ne.symm (by assumption) | omega) only [hF1, ↓ZD, ZU, ne_eq, Zaa, Zab, false_implies, Zac, Zad, Zae, Zaf, Zag, Zah, Zai, Zaj, Zak, Zal, Zam, Zan, Zao, Zap, Zaq, Zar, Zas, Zat, Zau, Zav, Zaw, Zax, Zay, Zaz, Za0, Za1, decide_true, decide_false, beq_self_eq_true, cond_true, cond_false, if_false, if_true, reduceIte, reduceCtorEq, not_true_eq_false, not_false_eq_true, true_and, and_true, forall_const, false_and, and_false, implies_true, Za2, Za3, Za4, Za5]
      refine NewB.of fun b2 hb2 hF2 => ?_
      simp only [List.forall_mem_cons] at hb2
      obtain ⟨_, _⟩ := hb2
      simp (disch := first | assumption | exact Ne.symm (by assumption) | omega) only [hF1, hF2, ↓ZD, ZU, ne_eq, Zaa, Zab, false_implies, Zac, Zad, Zae, Zaf, Zag, Zah, Zai, Zaj, Zak, Zal, Zam, Zan, Zao, Zap, Zaq, Zar, Zas, Zat, Zau, Zav, Zaw, Zax, Zay, Zaz, Za0, Za1, decide_true, decide_false, beq_self_eq_true, cond_true, cond_false, if_false, if_true, reduceIte, reduceCtorEq, not_true_eq_false, not_false_eq_true, true_and, and_true, forall_const, false_and, and_false, implies_true, Za2, Za3, Za4, Za5]
      refine NewB.of fun b3 hb3 hF3 => ?_
      simp only [List.forall_mem_cons] at hb3
      obtain ⟨_, _, _⟩ := hb3
      simp (disch := first | assumption | exact Ne.symm (by assumption) | omega) only [hF1, hF2, hF3, ↓ZD, ZU, ne_eq, Zaa, Zab, false_implies, Zac, Zad, Zae, Zaf, Zag, Zah, Zai, Zaj, Zak, Zal, Zam, Zan, Zao, Zap, Zaq, Zar, Zas, Zat, Zau, Zav, Zaw, Zax, Zay, Zaz, Za0, Za1, decide_true, decide_false, beq_self_eq_true, cond_true, cond_false, if_false, if_true, reduceIte, reduceCtorEq, not_true_eq_false, not_false_eq_true, true_and, and_true, forall_const, false_and, and_false, implies_true, Za2, Za3, Za4, Za5]
      refine CallE.pureH (hidx b2 9 _ (by simp (disch := first | assumption | exact Ne.symm (by assumption) | omega) only [hF2, ↓ZD, ZU, ne_eq, Zaa, Zab, false_implies, Zac, Zad, Zae, Zaf, Zag, Zah, Zai, Zaj, Zak, Zal, Zam, Zan, Zao, Zap, Zaq, Zar, Zas, Zat, Zau, Zav, Zaw, Zax, Zay, Zaz, Za0, Za1, decide_true, decide_false, beq_self_eq_true, cond_true, cond_false, if_false, if_true, reduceIte, reduceCtorEq, not_true_eq_false, not_false_eq_true, true_and, and_true, forall_const, false_and, and_false, implies_true, Za2, Za3, Za4, Za5])) ?_
      simp (disch := first | assumption | exact Ne.symm (by assumption) | omega) only [hF1, hF2, hF3, hd, hd2, ↓ZD, ZU, ne_eq, Zaa, Zab, false_implies, Zac, Zad, Zae, Zaf, Zag, Zah, Zai, Zaj, Zak, Zal, Zam, Zan, Zao, Zap, Zaq, Zar, Zas, Zat, Zau, Zav, Zaw, Zax, Zay, Zaz, Za0, Za1, decide_true, decide_false, beq_self_eq_true, cond_true, cond_false, if_false, if_true, reduceIte, reduceCtorEq, not_true_eq_false, not_false_eq_true, true_and, and_true, forall_const, false_and, and_false, implies_true, Za2, Za3, Za4, Za5]
    · obtain ⟨i, rfl⟩ : ∃ i : Nat, r = i := ⟨r.toNat, by omega⟩
      obtain ⟨hi, hp⟩ := isFst_at hfi
      have hd : decide ((i : Int) < 0) = false := by simp
      have hd2 : decide ((0 : Int) ≤ (i : Int)) = true := by simp
      rw [if_neg h0, Int.toNat_natCast]
      obtain ⟨hcl, hrp⟩ := h2 i _ (getC hi)
      refine ⟨g2 i, hrp, ?_⟩
      obtain ⟨v1, v2, v3, v4, hform, -, ⟨_, _, rfl, -⟩, ⟨_, _, rfl, -⟩, ⟨_, _, rfl, -⟩, ⟨_, _, _, rfl, -⟩⟩ := hrp
      obtain ⟨ba, oa, rfl, hla⟩ := hcl.ldn
      rw [hform] at hla
      rw [hform]
      refine pureV_of_svc mixed Tryd.func13 low13 (Nat.le_of_ble_eq_true rfl) (fun w0 => ?_)
      simp (disch := first | assumption | exact Ne.symm (by assumption) | omega) only [fu13, ↓ZD, ZU, ne_eq, Zaa, Zab, false_implies, Zac, Zad, Zae, Zaf, Zag, Zah, Zai, Zaj, Zak, Zal, Zam, Zan, Zao, Zap, Zaq, Zar, Zas, Zat, Zau, Zav, Zaw, Zax, Zay, Zaz, Za0, Za1, decide_true, decide_false, beq_self_eq_true, cond_true, cond_false, if_false, if_true, reduceIte, reduceCtorEq, not_true_eq_false, not_false_eq_true, true_and, and_true, forall_const, false_and, and_false, implies_true, Za2, Za3, Za4, Za5]
      refine NewB.of fun b1 hb1 hF1 => ?_
      simp (disch := first | assumption | exact Ne.symm (by assumption) | omega) only [hF1, ↓ZD, ZU, ne_eq, Zaa, Zab, false_implies, Zac, Zad, Zae, Zaf, Zag, Zah, Zai, Zaj, Zak, Zal, Zam, Zan, Zao, Zap, Zaq, Zar, Zas, Zat, Zau, Zav, Zaw, Zax, Zay, Zaz, Za0, Za1, decide_true, decide_false, beq_self_eq_true, cond_true, cond_false, if_false, if_true, reduceIte, reduceCtorEq, not_true_eq_false, not_false_eq_true, true_and, and_true, forall_const, false_and, and_false, implies_true, Za2, Za3, Za4, Za5]
      refine NewB.of fun b2 hb2 hF2 => ?_
      simp only [List.forall_mem_cons] at hb2
      obtain ⟨_, _⟩ := hb2
      simp (disch := first | assumption | exact Ne.symm (by assumption) | omega) only [hF1, hF2, ↓ZD, ZU, ne_eq, Zaa, Zab, false_implies, Zac, Zad, Zae, Zaf, Zag, Zah, Zai, Zaj, Zak, Zal, Zam, Zan, Zao, Zap, Zaq, Zar, Zas, Zat, Zau, Zav, Zaw, Zax, Zay, Zaz, Za0, Za1, decide_true, decide_false, beq_self_eq_true, cond_true, cond_false, if_false, if_true, reduceIte, reduceCtorEq, not_true_eq_false, not_false_eq_true, true_and, and_true, forall_const, false_and, and_false, implies_true, Za2, Za3, Za4, Za5]
      refine NewB.of fun b3 hb3 hF3 => ?_
      simp only [List.forall_mem_cons] at hb3
      obtain ⟨_, _, _⟩ := hb3
      simp (disch := first | assumption | exact Ne.symm (by assumption) | omega) only [hF1, hF2, hF3, ↓ZD, ZU, ne_eq, Zaa, Zab, false_implies, Zac, Zad, Zae, Zaf, Zag, Zah, Zai, Zaj, Zak, Zal, Zam, Zan, Zao, Zap, Zaq, Zar, Zas, Zat, Zau, Zav, Zaw, Zax, Zay, Zaz, Za0, Za1, decide_true, decide_false, beq_self_eq_true, cond_true, cond_false, if_false, if_true, reduceIte, reduceCtorEq, not_true_eq_false, not_false_eq_true, true_and, and_true, forall_const, false_and, and_false, implies_true, Za2, Za3, Za4, Za5]
      refine CallE.pureH (hidx b2 9 _ (by simp (disch := first | assumption | exact Ne.symm (by assumption) | omega) only [hF2, ↓ZD, ZU, ne_eq, Zaa, Zab, false_implies, Zac, Zad, Zae, Zaf, Zag, Zah, Zai, Zaj, Zak, Zal, Zam, Zan, Zao, Zap, Zaq, Zar, Zas, Zat, Zau, Zav, Zaw, Zax, Zay, Zaz, Za0, Za1, decide_true, decide_false, beq_self_eq_true, cond_true, cond_false, if_false, if_true, reduceIte, reduceCtorEq, not_true_eq_false, not_false_eq_true, true_and, and_true, forall_const, false_and, and_false, implies_true, Za2, Za3, Za4, Za5])) ?_
      simp (disch := first | assumption | exact Ne.symm (by assumption) | omega) only [hF1, hF2, hF3, hd, ↓ZD, ZU, ne_eq, Zaa, Zab, false_implies, Zac, Zad, Zae, Zaf, Zag, Zah, Zai, Zaj, Zak, Zal, Zam, Zan, Zao, Zap, Zaq, Zar, Zas, Zat, Zau, Zav, Zaw, Zax, Zay, Zaz, Za0, Za1, decide_true, decide_false, beq_self_eq_true, cond_true, cond_false, if_false, if_true, reduceIte, reduceCtorEq, not_true_eq_false, not_false_eq_true, true_and, and_true, forall_const, false_and, and_false, implies_true, Za2, Za3, Za4, Za5]
      refine conj.of (by omega) ?_
      simp (disch := first | assumption | exact Ne.symm (by assumption) | omega) only [hF1, hF2, hF3, hd, Int.toNat_natCast, ↓hla, hd2, ↓ZD, ZU, ne_eq, Zaa, Zab, false_implies, Zac, Zad, Zae, Zaf, Zag, Zah, Zai, Zaj, Zak, Zal, Zam, Zan, Zao, Zap, Zaq, Zar, Zas, Zat, Zau, Zav, Zaw, Zax, Zay, Zaz, Za0, Za1, decide_true, decide_false, beq_self_eq_true, cond_true, cond_false, if_false, if_true, reduceIte, reduceCtorEq, not_true_eq_false, not_false_eq_true, true_and, and_true, forall_const, false_and, and_false, implies_true, Za2, Za3, Za4, Za5]
theorem rtype_pure (F : Base) {ch : List Value} {s : Sch} (h : RepH F ch s) (nm : Str) : PureV Tryd.prog F 14 #[.agg ch.toArray, .string (bs nm)] (.int .i64 (tyI s nm)) := by
  cases h with
  | mk a1 a2 c1 c2 ts xs g1 g2 hc1 hc2 hl1 hl2 h1 h2 =>
    unfold tyI
    simp only
    have hr := idxI_isFst (fun t : ET => t.name == nm) nilE ts
    revert hr
    generalize idxI (fun t : ET => t.name == nm) ts = r
    intro hr
    refine pureV_of_svc mixed Tryd.func14 low14 (Nat.le_of_ble_eq_true rfl) (fun w0 => ?_)
    simp (disch := first | assumption | exact Ne.symm (by assumption) | omega) only [fu14, ↓ZD, ZU, ne_eq, Zaa, Zab, false_implies, Zac, Zad, Zae, Zaf, Zag, Zah, Zai, Zaj, Zak, Zal, Zam, Zan, Zao, Zap, Zaq, Zar, Zas, Zat, Zau, Zav, Zaw, Zax, Zay, Zaz, Za0, Za1, decide_true, decide_false, beq_self_eq_true, cond_true, cond_false, if_false, if_true, reduceIte, reduceCtorEq, not_true_eq_false, not_false_eq_true, true_and, and_true, forall_const, false_and, and_false, implies_true, Za2, Za3, Za4, Za5]
    refine NewB.of fun b1 hb1 hF1 => ?_
    simp (disch := first | assumption | exact Ne.symm (by assumption) | omega) only [hF1, ↓ZD, ZU, ne_eq, Zaa, Zab, false_implies, Zac, Zad, Zae, Zaf, Zag, Zah, Zai, Zaj, Zak, Zal, Zam, Zan, Zao, Zap, Zaq, Zar, Zas, Zat, Zau, Zav, Zaw, Zax, Zay, Zaz, Za0, Za1, decide_true, decide_false, beq_self_eq_true, cond_true, cond_false, if_false, if_true, reduceIte, reduceCtorEq, not_true_eq_false, not_false_eq_true, true_and, and_true, forall_const, false_and, and_false, implies_true, Za2, Za3, Za4, Za5]
    refine LoopL.inv (α := Nat) (fun i => i ≤ ts.length ∧ ∀ j, j < i → ((ts.getD j nilE).name == nm) = false)
      (fun i => [(1, some (.string (bs nm))), (2, some (.pointer (some ⟨b1, 0, none⟩))), (5, some (.int .i64 i))]) (fun i => [(b1, .cells #[.slice a1 ts.length c1, .slice a2 xs.length c2] 25 (0, 0))]) (fun i => ts.length - i) 0 ⟨Nat.zero_le _, fun j h => absurd h (by omega)⟩ (by (simp only [Le_nil, Le_cons]; simp (disch := first | assumption | exact Ne.symm (by assumption) | omega) only [↓ZD, ZU, ne_eq, Zaa, Zab, false_implies, Zac, Zad, Zae, Zaf, Zag, Zah, Zai, Zaj, Zak, Zal, Zam, Zan, Zao, Zap, Zaq, Zar, Zas, Zat, Zau, Zav, Zaw, Zax, Zay, Zaz, Za0, Za1, decide_true, decide_false, beq_self_eq_true, cond_true, cond_false, if_false, if_true, reduceIte, reduceCtorEq, not_true_eq_false, not_false_eq_true, true_and, and_true, forall_const, false_and, and_false, implies_true, Za2, Za3, Za4, Za5]; try trivial)) (by (simp only [HLe_nil, HLe_cons]; try (simp (disch := first | assumption | exact Ne.symm (by assumption) | omega) only [↓ZD, ZU, ne_eq, Zaa, Zab, false_implies, Zac, Zad, Zae, Zaf, Zag, Zah, Zai, Zaj, Zak, Zal, Zam, Zan, Zao, Zap, Zaq, Zar, Zas, Zat, Zau, Zav, Zaw, Zax, Zay, Zaz, Za0, Za1, decide_true, decide_false, beq_self_eq_true, cond_true, cond_false, if_false, if_true, reduceIte, reduceCtorEq, not_true_eq_false, not_false_eq_true, true_and, and_true, forall_const, false_and, and_false, implies_true, Za2, Za3, Za4, Za5]))) ?_
    rintro i ⟨hi, ha⟩
    by_cases hlt : i < ts.length
    · have hd : decide ((i : Int) < (ts.length : Int)) = true := by simp; omega
      obtain ⟨hcl, hrp⟩ := h1 i _ (getE hlt)
      obtain ⟨v1, v2, hform, -, -, -⟩ := hrp
      rw [hform] at hcl
      obtain ⟨ba, oa, rfl, -, hla⟩ := hcl.all
      have hl0 := hla 0 (by omega)
      simp only [Nat.add_zero, List.getD_cons_zero] at hl0
      simp (disch := first | assumption | exact Ne.symm (by assumption) | omega) only [hF1, hd, ↓ZD, ZU, ne_eq, Zaa, Zab, false_implies, Zac, Zad, Zae, Zaf, Zag, Zah, Zai, Zaj, Zak, Zal, Zam, Zan, Zao, Zap, Zaq, Zar, Zas, Zat, Zau, Zav, Zaw, Zax, Zay, Zaz, Za0, Za1, decide_true, decide_false, beq_self_eq_true, cond_true, cond_false, if_false, if_true, reduceIte, reduceCtorEq, not_true_eq_false, not_false_eq_true, true_and, and_true, forall_const, false_and, and_false, implies_true, Za2, Za3, Za4, Za5]
      refine conj.of (by omega) ?_
      simp (disch := first | assumption | exact Ne.symm (by assumption) | omega) only [hF1, hd, Int.toNat_natCast, ↓hl0, ↓ZD, ZU, ne_eq, Zaa, Zab, false_implies, Zac, Zad, Zae, Zaf, Zag, Zah, Zai, Zaj, Zak, Zal, Zam, Zan, Zao, Zap, Zaq, Zar, Zas, Zat, Zau, Zav, Zaw, Zax, Zay, Zaz, Za0, Za1, decide_true, decide_false, beq_self_eq_true, cond_true, cond_false, if_false, if_true, reduceIte, reduceCtorEq, not_true_eq_false, not_false_eq_true, true_and, and_true, forall_const, false_and, and_false, implies_true, Za2, Za3, Za4, Za5]
      refine ⟨fun hpp => ?_, fun hpp => ?_⟩
      · have : r = i := by
          rcases hr with ⟨k, h1, h2, h3, h4⟩ | ⟨h1, h2⟩
          · have : k = i := by
              rcases Nat.lt_trichotomy k i with h | h | h
              · have := ha k h; simp only at h3; rw [this] at h3; cases h3
              · exact h
              · have := h4 i h; simp only at this; rw [this] at hpp; cases hpp
            rw [h1, this]
          · have := h2 i hlt; simp only at this; rw [this] at hpp; cases hpp
        rw [this]
      · refine invK.on (i + 1) (⟨by omega, fun j hj => by
          by_cases e : j = i
          · rw [e]; exact hpp
          · exact ha j (by omega)⟩) (by omega) (by (simp only [Le_nil, Le_cons]; simp (disch := first | assumption | exact Ne.symm (by assumption) | omega) only [hF1, ↓ZD, ZU, ne_eq, Zaa, Zab, false_implies, Zac, Zad, Zae, Zaf, Zag, Zah, Zai, Zaj, Zak, Zal, Zam, Zan, Zao, Zap, Zaq, Zar, Zas, Zat, Zau, Zav, Zaw, Zax, Zay, Zaz, Za0, Za1, decide_true, decide_false, beq_self_eq_true, cond_true, cond_false, if_false, if_true, reduceIte, reduceCtorEq, not_true_eq_false, not_false_eq_true, true_and, and_true, forall_const, false_and, and_false, implies_true, Za2, Za3, Za4, Za5]; try trivial)) (by (simp only [HLe_nil, HLe_cons]; try (simp (disch := first | assumption | exact Ne.symm (by assumption) | omega) only [hF1, ↓ZD, ZU, ne_eq, Zaa, Zab, false_implies, Zac, Zad, Zae, Zaf, Zag, Zah, Zai, Zaj, Zak, Zal, Zam, Zan, Zao, Zap, Zaq, Zar, Zas, Zat, Zau, Zav, Zaw, Zax, Zay, Zaz, Za0, Za1, decide_true, decide_false, beq_self_eq_true, cond_true, cond_false, if_false, if_true, reduceIte, reduceCtorEq, not_true_eq_false, not_false_eq_true, true_and, and_true, forall_const, false_and, and_false, implies_true, Za2, Za3, Za4, Za5])))
    · have hd : decide ((i : Int) < (ts.length : Int)) = false := by simp; omega
      have : r = -1 := by
        rcases hr with ⟨k, h1, h2, h3, h4⟩ | ⟨h1, h2⟩
        · have := ha k (by omega); simp only at h3; rw [this] at h3; cases h3
        · exact h1
      simp (disch := first | assumption | exact Ne.symm (by assumption) | omega) only [hF1, hd, this, ↓ZD, ZU, ne_eq, Zaa, Zab, false_implies, Zac, Zad, Zae, Zaf, Zag, Zah, Zai, Zaj, Zak, Zal, Zam, Zan, Zao, Zap, Zaq, Zar, Zas, Zat, Zau, Zav, Zaw, Zax, Zay, Zaz, Za0, Za1, decide_true, decide_false, beq_self_eq_true, cond_true, cond_false, if_false, if_true, reduceIte, reduceCtorEq, not_true_eq_false, not_false_eq_true, true_and, and_true, forall_const, false_and, and_false, implies_true, Za2, Za3, Za4, Za5]
theorem raction_pure (F : Base) {ch : List Value} {s : Sch} (h : RepH F ch s) (nm : Str) : PureV Tryd.prog F 15 #[.agg ch.toArray, .string (bs nm)] (.int .i64 (acI s nm)) := by
  cases h with
  | mk a1 a2 c1 c2 ts xs g1 g2 hc1 hc2 hl1 hl2 h1 h2 =>
    unfold acI
    simp only
    have hr := idxI_isFst (fun t : AC => t.id == nm) nilC xs
    revert hr
    generalize idxI (fun t : AC => t.id == nm) xs = r
    intro hr
    refine pureV_of_svc mixed Tryd.func15 low15 (Nat.le_of_ble_eq_true rfl) (fun w0 => ?_)
    simp (disch := first | assumption | exact Ne.symm (by assumption) | omega) only [fu15, ↓ZD, ZU, ne_eq, Zaa, Zab, false_implies, Zac, Zad, Zae, Zaf, Zag, Zah, Zai, Zaj, Zak, Zal, Zam, Zan, Zao, Zap, Zaq, Zar, Zas, Zat, Zau, Zav, Zaw, Zax, Zay, Zaz, Za0, Za1, decide_true, decide_false, beq_self_eq_true, cond_true, cond_false, if_false, if_true, reduceIte, reduceCtorEq, not_true_eq_false, not_false_eq_true, true_and, and_true, forall_const, false_and, and_false, implies_true, Za2, Za3, Za4, Za5]
    refine NewB.of fun b1 hb1 hF1 => ?_
    simp (disch := first | assumption | exact Ne.symm (by assumption) | omega) only [hF1, ↓ZD, ZU, ne_eq, Zaa, Zab, false_implies, Zac, Zad, Zae, Zaf, Zag, Zah, Zai, Zaj, Zak, Zal, Zam, Zan, Zao, Zap, Zaq, Zar, Zas, Zat, Zau, Zav, Zaw, Zax, Zay, Zaz, Za0, Za1, decide_true, decide_false, beq_self_eq_true, cond_true, cond_false, if_false, if_true, reduceIte, reduceCtorEq, not_true_eq_false, not_false_eq_true, true_and, and_true, forall_const, false_and, and_false, implies_true, Za2, Za3, Za4, Za5]
    refine LoopL.inv (α := Nat) (fun i => i ≤ xs.length ∧ ∀ j, j < i → ((xs.getD j nilC).id == nm) = false)
      (fun i => [(1, some (.string (bs nm))), (2, some (.pointer (some ⟨b1, 0, none⟩))), (5, some (.int .i64 i))]) (fun i => [(b1, .cells #[.slice a1 ts.length c1, .slice a2 xs.length c2] 25 (0, 0))]) (fun i => xs.length - i) 0 ⟨Nat.zero_le _, fun j h => absurd h (by omega)⟩ (by (simp only [Le_nil, Le_cons]; simp (disch := first | assumption | exact Ne.symm (by assumption) | omega) only [↓ZD, ZU, ne_eq, Zaa, Zab, false_implies, Zac, Zad, Zae, Zaf, Zag, Zah, Zai, Zaj, Zak, Zal, Zam, Zan, Zao, Zap, Zaq, Zar, Zas, Zat, Zau, Zav, Zaw, Zax, Zay, Zaz, Za0, Za1, decide_true, decide_false, beq_self_eq_true, cond_true, cond_false, if_false, if_true, reduceIte, reduceCtorEq, not_true_eq_false, not_false_eq_true, true_and, and_true, forall_const, false_and, and_false, implies_true, Za2, Za3, Za4, Za5]; try trivial)) (by (simp only [HLe_nil, HLe_cons]; try (simp (disch := first | assumption | exact Ne.symm (by assumption) | omega) only [↓ZD, ZU, ne_eq, Zaa, Zab, false_implies, Zac, Zad, Zae, Zaf, Zag, Zah, Zai, Zaj, Zak, Zal, Zam, Zan, Zao, Zap, Zaq, Zar, Zas, Zat, Zau, Zav, Zaw, Zax, Zay, Zaz, Za0, Za1, decide_true, decide_false, beq_self_eq_true, cond_true, cond_false, if_false, if_true, reduceIte, reduceCtorEq, not_true_eq_false, not_false_eq_true, true_and, and_true, forall_const, false_and, and_false, implies_true, Za2, Za3, Za4, Za5]))) ?_
    rintro i ⟨hi, ha⟩
    by_cases hlt : i < xs.length
    · have hd : decide ((i : Int) < (xs.length : Int)) = true := by simp; omega
      obtain ⟨hcl, hrp⟩ := h2 i _ (getC hlt)
      obtain ⟨v1, v2, v3, v4, hform, -, -, -, -, -⟩ := hrp
      rw [hform] at hcl
      obtain ⟨ba, oa, rfl, -, hla⟩ := hcl.all
      have hl0 := hla 0 (by omega)
      simp only [Nat.add_zero, List.getD_cons_zero] at hl0
      simp (disch := first | assumption | exact Ne.symm (by assumption) | omega) only [hF1, hd, ↓ZD, ZU, ne_eq, Zaa, Zab, false_implies, Zac, Zad, Zae, Zaf, Zag, Zah, Zai, Zaj, Zak, Zal, Zam, Zan, Zao, Zap, Zaq, Zar, Zas, Zat, Zau, Zav, Zaw, Zax, Zay, Zaz, Za0, Za1, decide_true, decide_false, beq_self_eq_true, cond_true, cond_false, if_false, if_true, reduceIte, reduceCtorEq, not_true_eq_false, not_false_eq_true, true_and, and_true, forall_const, false_and, and_false, implies_true, Za2, Za3, Za4, Za5]
      refine conj.of (by omega) ?_
      simp (disch := first | assumption | exact Ne.symm (by assumption) | omega) only [hF1, hd, Int.toNat_natCast, ↓hl0, ↓ZD, ZU, ne_eq, Zaa, Zab, false_implies, Zac, Zad, Zae, Zaf, Zag, Zah, Zai, Zaj, Zak, Zal, Zam, Zan, Zao, Zap, Zaq, Zar, Zas, Zat, Zau, Zav, Zaw, Zax, Zay, Zaz, Za0, Za1, decide_true, decide_false, beq_self_eq_true, cond_true, cond_false, if_false, if_true, reduceIte, reduceCtorEq, not_true_eq_false, not_false_eq_true, true_and, and_true, forall_const, false_and, and_false, implies_true, Za2, Za3, Za4, Za5]
      refine ⟨fun hpp => ?_, fun hpp => ?_⟩
      · have : r = i := by
          rcases hr with ⟨k, h1, h2, h3, h4⟩ | ⟨h1, h2⟩
          · have : k = i := by
              rcases Nat.lt_trichotomy k i with h | h | h
              · have := ha k h; simp only at h3; rw [this] at h3; cases h3
              · exact h
              · have := h4 i h; simp only at this; rw [this] at hpp; cases hpp
            rw [h1, this]
          · have := h2 i hlt; simp only at this; rw [this] at hpp; cases hpp
        rw [this]
      · refine invK.on (i + 1) (⟨by omega, fun j hj => by
          by_cases e : j = i
          · rw [e]; exact hpp
          · exact ha j (by omega)⟩) (by omega) (by (simp only [Le_nil, Le_cons]; simp (disch := first | assumption | exact Ne.symm (by assumption) | omega) only [hF1, ↓ZD, ZU, ne_eq, Zaa, Zab, false_implies, Zac, Zad, Zae, Zaf, Zag, Zah, Zai, Zaj, Zak, Zal, Zam, Zan, Zao, Zap, Zaq, Zar, Zas, Zat, Zau, Zav, Zaw, Zax, Zay, Zaz, Za0, Za1, decide_true, decide_false, beq_self_eq_true, cond_true, cond_false, if_false, if_true, reduceIte, reduceCtorEq, not_true_eq_false, not_false_eq_true, true_and, and_true, forall_const, false_and, and_false, implies_true, Za2, Za3, Za4, Za5]; try trivial)) (by (simp only [HLe_nil, HLe_cons]; try (simp (disch := first | assumption | exact Ne.symm (by assumption) | omega) only [hF1, ↓ZD, ZU, ne_eq, Zaa, Zab, false_implies, Zac, Zad, Zae, Zaf, Zag, Zah, Zai, Zaj, Zak, Zal, Zam, Zan, Zao, Zap, Zaq, Zar, Zas, Zat, Zau, Zav, Zaw, Zax, Zay, Zaz, Za0, Za1, decide_true, decide_false, beq_self_eq_true, cond_true, cond_false, if_false, if_true, reduceIte, reduceCtorEq, not_true_eq_false, not_false_eq_true, true_and, and_true, forall_const, false_and, and_false, implies_true, Za2, Za3, Za4, Za5])))
    · have hd : decide ((i : Int) < (xs.length : Int)) = false := by simp; omega
      have : r = -1 := by
        rcases hr with ⟨k, h1, h2, h3, h4⟩ | ⟨h1, h2⟩
        · have := ha k (by omega); simp only at h3; rw [this] at h3; cases h3
        · exact h1
      simp (disch := first | assumption | exact Ne.symm (by assumption) | omega) only [hF1, hd, this, ↓ZD, ZU, ne_eq, Zaa, Zab, false_implies, Zac, Zad, Zae, Zaf, Zag, Zah, Zai, Zaj, Zak, Zal, Zam, Zan, Zao, Zap, Zaq, Zar, Zas, Zat, Zau, Zav, Zaw, Zax, Zay, Zaz, Za0, Za1, decide_true, decide_false, beq_self_eq_true, cond_true, cond_false, if_false, if_true, reduceIte, reduceCtorEq, not_true_eq_false, not_false_eq_true, true_and, and_true, forall_const, false_and, and_false, implies_true, Za2, Za3, Za4, Za5]
end Go.Proofs.YtnnieekbklmgdaaDoor
