/- Layer 12: which types may be in a schema. -/
import Derived.Test.YtnnieekbklmgdaaDoorSyG
namespace Go.Proofs.YtnnieekbklmgdaaDoor
open Go Go.Eng
open Int renaming reduceEq → Zaa, reduceToNat → Zaw, reduceLE → Zax, reduceLT → Zay, reduceAdd → Zaz, reduceSub → Za0, reduceNeg → Za1, reducePow → Za3, reduceNegSucc → Za5
open UInt8 renaming reduceOfNat → Zab
open Go.Eng renaming subG → Zac, lit → Zad, isPar → Zae, numb → Zaf, Wf → Zag, resV → Zah, oneCell → Zai, isB → Zaj, asB → Zak
open List renaming mapM_cons → Zal, mapM_nil → Zam
open Go.Value renaming cells → Zan
open Nat renaming reduceAdd → Zao, reduceMul → Zap, reduceMod → Zaq, reduceDiv → Zar, reduceEqDiff → Zas, reduceBEq → Zat, reduceLeDiff → Zau, reduceSub → Zav, reducePow → Za2, reduceLT → Za4
set_option linter.unusedSimpArgs false
set_option linter.unusedVariables false
set_option maxRecDepth 20000

theorem RepH.form {F : Base} {ch : List Value} {s : Sch} (h : RepH F ch s) : ∃ a1 n1 c1 a2 n2 c2, ch = [.slice a1 n1 c1, .slice a2 n2 c2] := by
  cases h; exact ⟨_, _, _, _, _, _, rfl⟩
mutual
def kn (s : Sch) : Ty → Bool
  | .mk k n es ats => !(decide (k < 3) || (k == 6 && decide (tyI s n < 0))) && (knA s ats && knL s es)
def knL (s : Sch) : List Ty → Bool
  | [] => true
  | x :: l => kn s x && knL s l
def knA (s : Sch) : List (List UInt8 × Ty × Bool) → Bool
  | [] => true
  | (_, t, _) :: l => kn s t && knA s l
end
theorem knL_eq (s : Sch) : ∀ l, knL s l = l.all (kn s)
  | [] => by simp [knL]
  | x :: l => by rw [knL, knL_eq]; rfl
theorem knA_eq (s : Sch) : ∀ l, knA s l = l.all fun x : At => kn s x.2.1
  | [] => by simp [knA]
  | (_, t, _) :: l => by rw [knA, knA_eq]; rfl
theorem knL_snoc {s : Sch} {l : List Ty} {i : Nat} {x : Ty} (h : l[i]? = some x) : knL s (l.take (i + 1)) = (knL s (l.take i) && kn s x) := by
  rw [knL_eq, knL_eq, take_snoc h, List.all_append]; simp
theorem knA_snoc {s : Sch} {l : List At} {i : Nat} {x : At} (h : l[i]? = some x) : knA s (l.take (i + 1)) = (knA s (l.take i) && kn s x.2.1) := by
  rw [knA_eq, knA_eq, take_snoc h, List.all_append]; simp
theorem knL_no {s : Sch} {l : List Ty} {i : Nat} {x : Ty} (h : l[i]? = some x) (hx : kn s x = false) : knL s l = false := by
  rw [knL_eq, List.all_eq_false]; exact ⟨x, List.mem_of_getElem? h, by simp [hx]⟩
theorem knA_no {s : Sch} {l : List At} {i : Nat} {x : At} (h : l[i]? = some x) (hx : kn s x.2.1 = false) : knA s l = false := by
  rw [knA_eq, List.all_eq_false]; exact ⟨x, List.mem_of_getElem? h, by simp [hx]⟩
theorem anyT_pure (F : Base) (a : Option Addr) (c : Nat) (es : List Ty) (g : Nat → List Value) (fv : Value) (p : Ty → Bool) (hn : es.length ≤ 9223372036854775807) (h1 : ∀ (i : Nat) (t : Ty), es[i]? = some t → Cl F a 4 i (g i))
    (hp : ∀ (i : Nat) (t : Ty), es[i]? = some t → PureF Tryd.prog F fv [.agg (g i).toArray] (.bool (p t))) : PureV Tryd.prog F 57 #[.slice a es.length c, fv] (.bool (es.any p)) := by
  have h := idx41 F a es.length c g fv (fun i => p (es.getD i nilT)) _ (idxI_isFst p nilT es) hn (fun i hi => h1 i _ (getT hi)) (fun i hi => hp i _ (getT hi))
  have e := idxI_mem p es
  refine pureV_of_svc mixed Tryd.func57 low57 (Nat.le_of_ble_eq_true rfl) (fun w0 => ?_)
  simp (disch := first | assumption | exact Ne.symm (by assumption) | omega) only [fu57, ↓ZD, ZU, ne_eq, Zaa, Zab, false_implies, Zac, Zad, Zae, Zaf, Zag, Zah, Zai, Zaj, Zak, Zal, Zam, Zan, Zao, Zap, Zaq, Zar, Zas, Zat, Zau, Zav, Zaw, Zax, Zay, Zaz, Za0, Za1, decide_true, decide_false, beq_self_eq_true, cond_true, cond_false, if_false, if_true, reduceIte, reduceCtorEq, not_true_eq_false, not_false_eq_true, true_and, and_true, forall_const, false_and, and_false, implies_true, Za2, Za3, Za4, Za5]
  refine CallE.pure h ?_
  simp (disch := first | assumption | exact Ne.symm (by assumption) | omega) only [e, ↓ZD, ZU, ne_eq, Zaa, Zab, false_implies, Zac, Zad, Zae, Zaf, Zag, Zah, Zai, Zaj, Zak, Zal, Zam, Zan, Zao, Zap, Zaq, Zar, Zas, Zat, Zau, Zav, Zaw, Zax, Zay, Zaz, Za0, Za1, decide_true, decide_false, beq_self_eq_true, cond_true, cond_false, if_false, if_true, reduceIte, reduceCtorEq, not_true_eq_false, not_false_eq_true, true_and, and_true, forall_const, false_and, and_false, implies_true, Za2, Za3, Za4, Za5]
theorem callKn : callable Tryd.prog 58 = true := by kernel_rfl
theorem kn1_pure (F : Base) (b : Nat) {ch ca : List Value} {s : Sch} {a : Ty} (hb : F b = some (.cells ch.toArray 25 (0, 0))) (hs : RepH F ch s) (ha : RepT F ca a) (m : Bool) (h : PureV Tryd.prog F 47 #[.agg ch.toArray, .agg ca.toArray] (.bool m)) :
    PureV Tryd.prog F 58 #[.agg ca.toArray, .pointer (some ⟨b, 0, none⟩)] (.bool (!m)) := by
  obtain ⟨_, _, _, _, _, _, rfl⟩ := hs.form
  obtain ⟨_, _, _, _, _, _, _, _, rfl⟩ := ha.form
  refine pureV_of_svc mixed Tryd.func58 low58 (Nat.le_of_ble_eq_true rfl) (fun w0 => ?_)
  simp (disch := first | assumption | exact Ne.symm (by assumption) | omega) only [fu58, ↓ZD, ZU, ne_eq, Zaa, Zab, false_implies, Zac, Zad, Zae, Zaf, Zag, Zah, Zai, Zaj, Zak, Zal, Zam, Zan, Zao, Zap, Zaq, Zar, Zas, Zat, Zau, Zav, Zaw, Zax, Zay, Zaz, Za0, Za1, decide_true, decide_false, beq_self_eq_true, cond_true, cond_false, if_false, if_true, reduceIte, reduceCtorEq, not_true_eq_false, not_false_eq_true, true_and, and_true, forall_const, false_and, and_false, implies_true, Za2, Za3, Za4, Za5]
  refine NewB.of fun b1 hb1 hF1 => ?_
  simp (disch := first | assumption | exact Ne.symm (by assumption) | omega) only [hF1, hb, ↓ZD, ZU, ne_eq, Zaa, Zab, false_implies, Zac, Zad, Zae, Zaf, Zag, Zah, Zai, Zaj, Zak, Zal, Zam, Zan, Zao, Zap, Zaq, Zar, Zas, Zat, Zau, Zav, Zaw, Zax, Zay, Zaz, Za0, Za1, decide_true, decide_false, beq_self_eq_true, cond_true, cond_false, if_false, if_true, reduceIte, reduceCtorEq, not_true_eq_false, not_false_eq_true, true_and, and_true, forall_const, false_and, and_false, implies_true, Za2, Za3, Za4, Za5]
  refine CallE.pure h ?_
  simp (disch := first | assumption | exact Ne.symm (by assumption) | omega) only [hF1, ↓ZD, ZU, ne_eq, Zaa, Zab, false_implies, Zac, Zad, Zae, Zaf, Zag, Zah, Zai, Zaj, Zak, Zal, Zam, Zan, Zao, Zap, Zaq, Zar, Zas, Zat, Zau, Zav, Zaw, Zax, Zay, Zaz, Za0, Za1, decide_true, decide_false, beq_self_eq_true, cond_true, cond_false, if_false, if_true, reduceIte, reduceCtorEq, not_true_eq_false, not_false_eq_true, true_and, and_true, forall_const, false_and, and_false, implies_true, Za2, Za3, Za4, Za5]
theorem known_pure (F : Base) {ch : List Value} {s : Sch} (hs : RepH F ch s) {ca : List Value} {a : Ty} (ha : RepT F ca a) : may a = true → PureV Tryd.prog F 47 #[.agg ch.toArray, .agg ca.toArray] (.bool (kn s a)) := by
  obtain ⟨y1, y2, y3, y4, y5, y6, rfl⟩ := hs.form
  induction ha with
  | mk k nm a1 c1 a2 c2 es ats g1 g2 hk hn hl1 hl2 hc1 hc2 h1 r1 h2 r2 i1 i2 =>
    intro hma
    obtain ⟨m7, mee, mta⟩ := may_elem hma
    obtain ⟨mk0, mk8⟩ := may_kind hma
    obtain ⟨cs, hcs, hT⟩ := type_pure F hs nm
    obtain ⟨w1, w2, rfl, -, ⟨_, _, rfl, -⟩, ⟨_, _, _, rfl, -⟩⟩ := hcs
    refine pureV_of_svc mixed Tryd.func47 low47 (Nat.le_of_ble_eq_true rfl) (fun w0 => ?_)
    simp (disch := first | assumption | exact Ne.symm (by assumption) | omega) only [fu47, ↓ZD, ZU, ne_eq, Zaa, Zab, false_implies, Zac, Zad, Zae, Zaf, Zag, Zah, Zai, Zaj, Zak, Zal, Zam, Zan, Zao, Zap, Zaq, Zar, Zas, Zat, Zau, Zav, Zaw, Zax, Zay, Zaz, Za0, Za1, decide_true, decide_false, beq_self_eq_true, cond_true, cond_false, if_false, if_true, reduceIte, reduceCtorEq, not_true_eq_false, not_false_eq_true, true_and, and_true, forall_const, false_and, and_false, implies_true, Za2, Za3, Za4, Za5]
    refine NewB.of fun b1 hb1 hF1 => ?_
    simp (disch := first | assumption | exact Ne.symm (by assumption) | omega) only [hF1, ↓ZD, ZU, ne_eq, Zaa, Zab, false_implies, Zac, Zad, Zae, Zaf, Zag, Zah, Zai, Zaj, Zak, Zal, Zam, Zan, Zao, Zap, Zaq, Zar, Zas, Zat, Zau, Zav, Zaw, Zax, Zay, Zaz, Za0, Za1, decide_true, decide_false, beq_self_eq_true, cond_true, cond_false, if_false, if_true, reduceIte, reduceCtorEq, not_true_eq_false, not_false_eq_true, true_and, and_true, forall_const, false_and, and_false, implies_true, Za2, Za3, Za4, Za5]
    refine NewB.of fun b2 hb2 hF2 => ?_
    simp only [List.forall_mem_cons] at hb2
    obtain ⟨_, _⟩ := hb2
    rw [kn]
    simp (disch := first | assumption | exact Ne.symm (by assumption) | omega) only [hF1, hF2, ↓ZD, ZU, ne_eq, Zaa, Zab, false_implies, Zac, Zad, Zae, Zaf, Zag, Zah, Zai, Zaj, Zak, Zal, Zam, Zan, Zao, Zap, Zaq, Zar, Zas, Zat, Zau, Zav, Zaw, Zax, Zay, Zaz, Za0, Za1, decide_true, decide_false, beq_self_eq_true, cond_true, cond_false, if_false, if_true, reduceIte, reduceCtorEq, not_true_eq_false, not_false_eq_true, true_and, and_true, forall_const, false_and, and_false, implies_true, Za2, Za3, Za4, Za5]
    by_cases hk3 : k < 3
    · have hbad : (decide (k < 3) || (k == 6 && decide (tyI s nm < 0))) = true := by simp [hk3]
      rw [hbad]
      rcases (by omega : k = 0 ∨ k = 1 ∨ k = 2) with rfl | rfl | rfl
      all_goals
        simp (disch := first | assumption | exact Ne.symm (by assumption) | omega) only [hF1, hF2, Int.reduceBEq, ↓ZD, ZU, ne_eq, Zaa, Zab, false_implies, Zac, Zad, Zae, Zaf, Zag, Zah, Zai, Zaj, Zak, Zal, Zam, Zan, Zao, Zap, Zaq, Zar, Zas, Zat, Zau, Zav, Zaw, Zax, Zay, Zaz, Za0, Za1, decide_true, decide_false, beq_self_eq_true, cond_true, cond_false, if_false, if_true, reduceIte, reduceCtorEq, not_true_eq_false, not_false_eq_true, true_and, and_true, forall_const, false_and, and_false, implies_true, Za2, Za3, Za4, Za5]
    have hk0 : (k == 0) = false := by simp; omega
    have hk1 : (k == 1) = false := by simp; omega
    have hk2 : (k == 2) = false := by simp; omega
    have hk3' : decide (k < 3) = false := by simpa using hk3
    rw [hk3', Bool.false_or]
    simp (disch := first | assumption | exact Ne.symm (by assumption) | omega) only [hF1, hF2, hk0, hk1, hk2, ↓ZD, ZU, ne_eq, Zaa, Zab, false_implies, Zac, Zad, Zae, Zaf, Zag, Zah, Zai, Zaj, Zak, Zal, Zam, Zan, Zao, Zap, Zaq, Zar, Zas, Zat, Zau, Zav, Zaw, Zax, Zay, Zaz, Za0, Za1, decide_true, decide_false, beq_self_eq_true, cond_true, cond_false, if_false, if_true, reduceIte, reduceCtorEq, not_true_eq_false, not_false_eq_true, true_and, and_true, forall_const, false_and, and_false, implies_true, Za2, Za3, Za4, Za5]
    refine ⟨fun h6 => ?_, fun h6 => ?_⟩
    rw [h6, Bool.true_and]
    refine CallE.pure hT ?_
    simp (disch := first | assumption | exact Ne.symm (by assumption) | omega) only [hF1, hF2, ↓ZD, ZU, ne_eq, Zaa, Zab, false_implies, Zac, Zad, Zae, Zaf, Zag, Zah, Zai, Zaj, Zak, Zal, Zam, Zan, Zao, Zap, Zaq, Zar, Zas, Zat, Zau, Zav, Zaw, Zax, Zay, Zaz, Za0, Za1, decide_true, decide_false, beq_self_eq_true, cond_true, cond_false, if_false, if_true, reduceIte, reduceCtorEq, not_true_eq_false, not_false_eq_true, true_and, and_true, forall_const, false_and, and_false, implies_true, Za2, Za3, Za4, Za5]
    refine NewB.of fun b3 hb3 hF3 => ?_
    simp only [List.forall_mem_cons] at hb3
    obtain ⟨_, _, _⟩ := hb3
    simp (disch := first | assumption | exact Ne.symm (by assumption) | omega) only [hF1, hF2, hF3, ↓ZD, ZU, ne_eq, Zaa, Zab, false_implies, Zac, Zad, Zae, Zaf, Zag, Zah, Zai, Zaj, Zak, Zal, Zam, Zan, Zao, Zap, Zaq, Zar, Zas, Zat, Zau, Zav, Zaw, Zax, Zay, Zaz, Za0, Za1, decide_true, decide_false, beq_self_eq_true, cond_true, cond_false, if_false, if_true, reduceIte, reduceCtorEq, not_true_eq_false, not_false_eq_true, true_and, and_true, forall_const, false_and, and_false, implies_true, Za2, Za3, Za4, Za5]
    refine ⟨fun hx => ?_, fun hx => ?_⟩
    · have : decide (tyI s nm < 0) = true := by simp at hx ⊢; omega
      rw [this]; rfl
    have : decide (tyI s nm < 0) = false := by simp at hx ⊢; omega
    rw [this, Bool.not_false, Bool.true_and]
    rotate_left
    rw [h6, Bool.false_and, Bool.not_false, Bool.true_and]
    all_goals
      refine LoopL.inv (α := Nat) (fun i => i ≤ ats.length ∧ knA s (ats.take i) = true)
        (fun i => [(2, some (.pointer (some ⟨b1, 0, none⟩))), (3, some (.pointer (some ⟨b2, 0, none⟩))), (27, some (.slice a2 ats.length c2)), (28, some (.int .i64 ats.length)), (29, some (.int .i64 i))])
        (fun i => [(b2, .cells #[.int .i64 k, .string (bs nm), .slice a1 es.length c1, .slice a2 ats.length c2] 55 (0, 0)), (b1, .cells #[.slice y1 y2 y3, .slice y4 y5 y6] 25 (0, 0))])
        (fun i => ats.length - i) 0 ⟨Nat.zero_le _, rfl⟩ (by (simp only [Le_nil, Le_cons]; simp (disch := first | assumption | exact Ne.symm (by assumption) | omega) only [↓ZD, ZU, ne_eq, Zaa, Zab, false_implies, Zac, Zad, Zae, Zaf, Zag, Zah, Zai, Zaj, Zak, Zal, Zam, Zan, Zao, Zap, Zaq, Zar, Zas, Zat, Zau, Zav, Zaw, Zax, Zay, Zaz, Za0, Za1, decide_true, decide_false, beq_self_eq_true, cond_true, cond_false, if_false, if_true, reduceIte, reduceCtorEq, not_true_eq_false, not_false_eq_true, true_and, and_true, forall_const, false_and, and_false, implies_true, Za2, Za3, Za4, Za5]; try trivial)) (by (simp only [HLe_nil, HLe_cons]; try (simp (disch := first | assumption | exact Ne.symm (by assumption) | omega) only [↓ZD, ZU, ne_eq, Zaa, Zab, false_implies, Zac, Zad, Zae, Zaf, Zag, Zah, Zai, Zaj, Zak, Zal, Zam, Zan, Zao, Zap, Zaq, Zar, Zas, Zat, Zau, Zav, Zaw, Zax, Zay, Zaz, Za0, Za1, decide_true, decide_false, beq_self_eq_true, cond_true, cond_false, if_false, if_true, reduceIte, reduceCtorEq, not_true_eq_false, not_false_eq_true, true_and, and_true, forall_const, false_and, and_false, implies_true, Za2, Za3, Za4, Za5]))) ?_
      rintro i ⟨hi, hma'⟩
      by_cases hlt : i < ats.length
      · have hd : decide ((i : Int) < (ats.length : Int)) = true := by simp; omega
        have gx := getA hlt
        have hc := i2 i _ gx (mta i _ gx)
        have hms := knA_snoc (s := s) gx
        rw [hma', Bool.true_and] at hms
        obtain ⟨k', nm', a1', n1', c1', a2', n2', c2', hform⟩ := (r2 i _ gx).form
        rw [hform] at hc
        have hcl := h2 i _ gx
        rw [hform] at hcl
        obtain ⟨ba, oa, rfl, hla⟩ := hcl.ldn
        simp (disch := first | assumption | exact Ne.symm (by assumption) | omega) only [hF1, hF2, hd, ↓ZD, ZU, ne_eq, Zaa, Zab, false_implies, Zac, Zad, Zae, Zaf, Zag, Zah, Zai, Zaj, Zak, Zal, Zam, Zan, Zao, Zap, Zaq, Zar, Zas, Zat, Zau, Zav, Zaw, Zax, Zay, Zaz, Za0, Za1, decide_true, decide_false, beq_self_eq_true, cond_true, cond_false, if_false, if_true, reduceIte, reduceCtorEq, not_true_eq_false, not_false_eq_true, true_and, and_true, forall_const, false_and, and_false, implies_true, Za2, Za3, Za4, Za5]
        refine conj.of (by omega) ?_
        simp (disch := first | assumption | exact Ne.symm (by assumption) | omega) only [hF1, hF2, hd, Int.toNat_natCast, ↓hla, ↓ZD, ZU, ne_eq, Zaa, Zab, false_implies, Zac, Zad, Zae, Zaf, Zag, Zah, Zai, Zaj, Zak, Zal, Zam, Zan, Zao, Zap, Zaq, Zar, Zas, Zat, Zau, Zav, Zaw, Zax, Zay, Zaz, Za0, Za1, decide_true, decide_false, beq_self_eq_true, cond_true, cond_false, if_false, if_true, reduceIte, reduceCtorEq, not_true_eq_false, not_false_eq_true, true_and, and_true, forall_const, false_and, and_false, implies_true, Za2, Za3, Za4, Za5]
        refine NewB.of fun b4 hb4 hF4 => ?_
        simp only [List.forall_mem_cons] at hb4
        obtain ⟨_, _, _⟩ := hb4
        simp (disch := first | assumption | exact Ne.symm (by assumption) | omega) only [hF1, hF2, hF4, ↓ZD, ZU, ne_eq, Zaa, Zab, false_implies, Zac, Zad, Zae, Zaf, Zag, Zah, Zai, Zaj, Zak, Zal, Zam, Zan, Zao, Zap, Zaq, Zar, Zas, Zat, Zau, Zav, Zaw, Zax, Zay, Zaz, Za0, Za1, decide_true, decide_false, beq_self_eq_true, cond_true, cond_false, if_false, if_true, reduceIte, reduceCtorEq, not_true_eq_false, not_false_eq_true, true_and, and_true, forall_const, false_and, and_false, implies_true, Za2, Za3, Za4, Za5]
        refine CallE.pure hc ?_
        simp (disch := first | assumption | exact Ne.symm (by assumption) | omega) only [hF1, hF2, hF4, ↓ZD, ZU, ne_eq, Zaa, Zab, false_implies, Zac, Zad, Zae, Zaf, Zag, Zah, Zai, Zaj, Zak, Zal, Zam, Zan, Zao, Zap, Zaq, Zar, Zas, Zat, Zau, Zav, Zaw, Zax, Zay, Zaz, Za0, Za1, decide_true, decide_false, beq_self_eq_true, cond_true, cond_false, if_false, if_true, reduceIte, reduceCtorEq, not_true_eq_false, not_false_eq_true, true_and, and_true, forall_const, false_and, and_false, implies_true, Za2, Za3, Za4, Za5]
        refine ⟨fun hx => ?_, fun hx => ?_⟩
        · have hx : kn s (ats.getD i nilA).2.1 = false := by simpa using hx
          rw [knA_no gx hx]; rfl
        · have hx : kn s (ats.getD i nilA).2.1 = true := by simpa using hx
          refine invK.on (i + 1) (⟨by omega, by rw [hms, hx]⟩) (by omega) (by (simp only [Le_nil, Le_cons]; simp (disch := first | assumption | exact Ne.symm (by assumption) | omega) only [hF1, hF2, ↓ZD, ZU, ne_eq, Zaa, Zab, false_implies, Zac, Zad, Zae, Zaf, Zag, Zah, Zai, Zaj, Zak, Zal, Zam, Zan, Zao, Zap, Zaq, Zar, Zas, Zat, Zau, Zav, Zaw, Zax, Zay, Zaz, Za0, Za1, decide_true, decide_false, beq_self_eq_true, cond_true, cond_false, if_false, if_true, reduceIte, reduceCtorEq, not_true_eq_false, not_false_eq_true, true_and, and_true, forall_const, false_and, and_false, implies_true, Za2, Za3, Za4, Za5]; try trivial)) (by (simp only [HLe_nil, HLe_cons]; try (simp (disch := first | assumption | exact Ne.symm (by assumption) | omega) only [hF1, hF2, ↓ZD, ZU, ne_eq, Zaa, Zab, false_implies, Zac, Zad, Zae, Zaf, Zag, Zah, Zai, Zaj, Zak, Zal, Zam, Zan, Zao, Zap, Zaq, Zar, Zas, Zat, Zau, Zav, Zaw, Zax, Zay, Zaz, Za0, Za1, decide_true, decide_false, beq_self_eq_true, cond_true, cond_false, if_false, if_true, reduceIte, reduceCtorEq, not_true_eq_false, not_false_eq_true, true_and, and_true, forall_const, false_and, and_false, implies_true, Za2, Za3, Za4, Za5])))
      · have hd : decide ((i : Int) < (ats.length : Int)) = false := by simp; omega
        obtain rfl : i = ats.length := by omega
        rw [List.take_length] at hma'
        rw [hma', Bool.true_and]
        have hany : knL s es = !(es.any fun x => !kn s x) := by
          rw [knL_eq, List.not_any_eq_all_not]; simp
        simp (disch := first | assumption | exact Ne.symm (by assumption) | omega) only [hF1, hF2, hd, ↓ZD, ZU, ne_eq, Zaa, Zab, false_implies, Zac, Zad, Zae, Zaf, Zag, Zah, Zai, Zaj, Zak, Zal, Zam, Zan, Zao, Zap, Zaq, Zar, Zas, Zat, Zau, Zav, Zaw, Zax, Zay, Zaz, Za0, Za1, decide_true, decide_false, beq_self_eq_true, cond_true, cond_false, if_false, if_true, reduceIte, reduceCtorEq, not_true_eq_false, not_false_eq_true, true_and, and_true, forall_const, false_and, and_false, implies_true, Za2, Za3, Za4, Za5]
        refine CallE.pureH (anyT_pure _ a1 c1 es g1 (.func (.func 58) #[] #[.pointer (some ⟨b1, 0, none⟩)]) (fun x => !kn s x) hl1 (fun i t hi => (h1 i t hi).mono le_up)
          (fun i t hi => ⟨58, #[], #[.pointer (some ⟨b1, 0, none⟩)], rfl, callKn, kn1_pure _ b1 (ch := [.slice y1 y2 y3, .slice y4 y5 y6]) (by simp (disch := first | assumption | exact Ne.symm (by assumption) | omega) only [hF1, hF2, ↓ZD, ZU, ne_eq, Zaa, Zab, false_implies, Zac, Zad, Zae, Zaf, Zag, Zah, Zai, Zaj, Zak, Zal, Zam, Zan, Zao, Zap, Zaq, Zar, Zas, Zat, Zau, Zav, Zaw, Zax, Zay, Zaz, Za0, Za1, decide_true, decide_false, beq_self_eq_true, cond_true, cond_false, if_false, if_true, reduceIte, reduceCtorEq, not_true_eq_false, not_false_eq_true, true_and, and_true, forall_const, false_and, and_false, implies_true, Za2, Za3, Za4, Za5]) (hs.mono le_up) ((r1 i t hi).mono le_up) _ ((i1 i t hi (mee i t hi)).up)⟩)) ?_
        simp (disch := first | assumption | exact Ne.symm (by assumption) | omega) only [hany, ↓ZD, ZU, ne_eq, Zaa, Zab, false_implies, Zac, Zad, Zae, Zaf, Zag, Zah, Zai, Zaj, Zak, Zal, Zam, Zan, Zao, Zap, Zaq, Zar, Zas, Zat, Zau, Zav, Zaw, Zax, Zay, Zaz, Za0, Za1, decide_true, decide_false, beq_self_eq_true, cond_true, cond_false, if_false, if_true, reduceIte, reduceCtorEq, not_true_eq_false, not_false_eq_true, true_and, and_true, forall_const, false_and, and_false, implies_true, Za2, Za3, Za4, Za5]
end Go.Proofs.YtnnieekbklmgdaaDoor
