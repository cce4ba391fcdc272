/- Layer 11: what may be: of the program and of the reference. -/
import Derived.Test.YtnnieekbklmgdaaDoorTyG
namespace Go.Proofs.YtnnieekbklmgdaaDoor
open Go Go.Eng
open Int renaming reduceEq → Zaa, reduceToNat → Zaw, reduceLE → Zax, reduceLT → Zay, reduceAdd → Zaz, reduceSub → Za0, reduceNeg → Za1, reducePow → Za3, reduceNegSucc → Za5
open UInt8 renaming reduceOfNat → Zab
open Go.Eng renaming subG → Zac, lit → Zad, isPar → Zae, numb → Zaf, Wf → Zag, resV → Zah, oneCell → Zai, isB → Zaj, asB → Zak
open List renaming mapM_cons → Zal, mapM_nil → Zam
open Go.Value renaming cells → Zan
open Nat renaming reduceAdd → Zao, reduceMul → Zap, reduceMod → Zaq, reduceDiv → Zar, reduceEqDiff → Zas, reduceBEq → Zat, reduceLeDiff → Zau, reduceSub → Zav, reducePow → Za2, reduceLT → Za4
set_option linter.unusedSimpArgs false
set_option linter.unusedVariables false
set_option maxRecDepth 20000

theorem bl_cmp : ∀ x y : List UInt8, (Op.bytesLess y x || y == x) = decide (0 ≤ cmpT x y)
  | [], [] => by simp [Op.bytesLess, cmpT]
  | [], b :: y => by simp [Op.bytesLess, cmpT]
  | a :: x, [] => by simp [Op.bytesLess, cmpT]
  | a :: x, b :: y => by
    have ih := bl_cmp x y
    rw [Op.bytesLess, cmpT]
    by_cases h : a = b
    · subst h
      simp [← ih]
    · rw [if_neg h]
      have h1 : (b == a) = false := by simpa using fun e => h e.symm
      have h2 : (b :: y == a :: x) = false := by simp; intro e; exact absurd e.symm h
      rw [h1, h2]
      by_cases hl : a.toNat < b.toNat
      · rw [if_pos hl]
        have : ¬ b < a := by rw [UInt8.lt_iff_toNat_lt]; omega
        simp [this]
      · rw [if_neg hl]
        have : b < a := by
          rw [UInt8.lt_iff_toNat_lt]
          have : a.toNat ≠ b.toNat := fun e => h (UInt8.toNat_inj.mp e)
          omega
        simp [this]
/-- Is the order rising, up to the i-th? -/
def risU (l : List At) (i : Nat) : Bool := (List.range i).all fun j => j == 0 || !(Op.bytesLess (l.getD j nilA).1 (l.getD (j - 1) nilA).1 || (l.getD j nilA).1 == (l.getD (j - 1) nilA).1)
theorem risA_range : ∀ l : List At, risA l = risU l l.length
  | [] => rfl
  | [x] => by simp [risA, risU]
  | x :: y :: l => by
    have ih := risA_range (y :: l)
    rw [risA, ih]
    unfold risU
    rw [List.length_cons (a := x), List.range_succ_eq_map, List.all_cons, List.all_map]
    simp only [List.length_cons]
    rw [List.range_succ_eq_map, List.all_cons, List.all_map, List.all_cons, List.all_map]
    simp only [Function.comp_def, Nat.succ_eq_add_one, List.getD_cons_succ, List.getD_cons_zero]
    simp
theorem mayA_snoc {l : List At} {i : Nat} {x : At} (h : l[i]? = some x) : mayA (l.take (i + 1)) = (mayA (l.take i) && may x.2.1) := by
  rw [mayA_eq, mayA_eq, take_snoc h, List.all_append]; simp
theorem mayL_snoc {l : List Ty} {i : Nat} {x : Ty} (h : l[i]? = some x) : mayL (l.take (i + 1)) = (mayL (l.take i) && may x) := by
  rw [mayL_eq, mayL_eq, take_snoc h, List.all_append]; simp
theorem mayL_no {l : List Ty} {i : Nat} {x : Ty} (h : l[i]? = some x) (hx : may x = false) : mayL l = false := by
  rw [mayL_eq, List.all_eq_false]; exact ⟨x, List.mem_of_getElem? h, by simp [hx]⟩
theorem mayA_no {l : List At} {i : Nat} {x : At} (h : l[i]? = some x) (hx : may x.2.1 = false) : mayA l = false := by
  rw [mayA_eq, List.all_eq_false]; exact ⟨x, List.mem_of_getElem? h, by simp [hx]⟩
/-- The first index, if there is one. -/
def isFst (p : Nat → Bool) (n : Nat) (r : Int) : Prop := (∃ i : Nat, r = i ∧ i < n ∧ p i = true ∧ ∀ j, j < i → p j = false) ∨ (r = -1 ∧ ∀ j, j < n → p j = false)
theorem fst_ex (p : Nat → Bool) : ∀ n, ∃ r, isFst p n r
  | 0 => ⟨-1, .inr ⟨rfl, fun j h => absurd h (by omega)⟩⟩
  | n + 1 => by
    obtain ⟨r, h | ⟨h1, h2⟩⟩ := fst_ex p n
    · obtain ⟨i, h1, h2, h3, h4⟩ := h
      exact ⟨r, .inl ⟨i, h1, by omega, h3, h4⟩⟩
    · cases hp : p n with
      | true => exact ⟨n, .inl ⟨n, rfl, by omega, hp, h2⟩⟩
      | false => exact ⟨r, .inr ⟨h1, fun j hj => by
          by_cases e : j = n
          · rw [e]; exact hp
          · exact h2 j (by omega)⟩⟩
theorem isFst_none {p : Nat → Bool} {n : Nat} {r : Int} (h : isFst p n r) : decide (0 ≤ r) = !((List.range n).all fun i => !p i) := by
  rcases h with ⟨i, h1, h2, h3, h4⟩ | ⟨h1, h2⟩
  · have : ((List.range n).all fun i => !p i) = false := by rw [List.all_eq_false]; exact ⟨i, List.mem_range.mpr h2, by simp [h3]⟩
    rw [this]; simp; omega
  · have : ((List.range n).all fun i => !p i) = true := by rw [List.all_eq_true]; intro j hj; simp [h2 j (List.mem_range.mp hj)]
    rw [this, h1]; rfl
theorem idx41 (F : Base) (a : Option Addr) (n c : Nat) (g : Nat → List Value) (fv : Value) (p : Nat → Bool) (r : Int) (hr : isFst p n r) (hn : n ≤ 9223372036854775807) (h1 : ∀ i, i < n → Cl F a 4 i (g i))
    (hp : ∀ i, i < n → PureF Tryd.prog F fv [.agg (g i).toArray] (.bool (p i))) : PureV Tryd.prog F 67 #[.slice a n c, fv] (.int .i64 r) := by
  refine pureV_of_svc mixed Tryd.func67 low67 (Nat.le_of_ble_eq_true rfl) (fun w0 => ?_)
  simp (disch := first | assumption | exact Ne.symm (by assumption) | omega) only [fu67, ↓ZD, ZU, ne_eq, Zaa, Zab, false_implies, Zac, Zad, Zae, Zaf, Zag, Zah, Zai, Zaj, Zak, Zal, Zam, Zan, Zao, Zap, Zaq, Zar, Zas, Zat, Zau, Zav, Zaw, Zax, Zay, Zaz, Za0, Za1, decide_true, decide_false, beq_self_eq_true, cond_true, cond_false, if_false, if_true, reduceIte, reduceCtorEq, not_true_eq_false, not_false_eq_true, true_and, and_true, forall_const, false_and, and_false, implies_true, Za2, Za3, Za4, Za5]
  refine LoopL.inv (α := Nat) (fun i => i ≤ n ∧ ∀ j, j < i → p j = false)
    (fun i => [(0, some (.slice a n c)), (1, some fv), (7, some (.int .i64 n)), (8, some (.int .i64 i))]) (fun i => []) (fun i => n - i) 0 ⟨Nat.zero_le _, fun j h => absurd h (by omega)⟩ ?_ ?_ ?_
  · simp only [Le_nil, Le_cons]
    simp (disch := first | assumption | exact Ne.symm (by assumption) | omega) only [↓ZD, ZU, ne_eq, Zaa, Zab, false_implies, Zac, Zad, Zae, Zaf, Zag, Zah, Zai, Zaj, Zak, Zal, Zam, Zan, Zao, Zap, Zaq, Zar, Zas, Zat, Zau, Zav, Zaw, Zax, Zay, Zaz, Za0, Za1, decide_true, decide_false, beq_self_eq_true, cond_true, cond_false, if_false, if_true, reduceIte, reduceCtorEq, not_true_eq_false, not_false_eq_true, true_and, and_true, forall_const, false_and, and_false, implies_true, Za2, Za3, Za4, Za5]
  · simp only [HLe_nil]
  · rintro i ⟨hi, ha⟩
    by_cases hlt : i < n
    · have hd : decide ((i : Int) < (n : Int)) = true := by simp; omega
      obtain ⟨ba, oa, rfl, hla⟩ := (h1 i hlt).ldn
      simp (disch := first | assumption | exact Ne.symm (by assumption) | omega) only [hd, ↓ZD, ZU, ne_eq, Zaa, Zab, false_implies, Zac, Zad, Zae, Zaf, Zag, Zah, Zai, Zaj, Zak, Zal, Zam, Zan, Zao, Zap, Zaq, Zar, Zas, Zat, Zau, Zav, Zaw, Zax, Zay, Zaz, Za0, Za1, decide_true, decide_false, beq_self_eq_true, cond_true, cond_false, if_false, if_true, reduceIte, reduceCtorEq, not_true_eq_false, not_false_eq_true, true_and, and_true, forall_const, false_and, and_false, implies_true, Za2, Za3, Za4, Za5]
      refine conj.of (by omega) ?_
      simp (disch := first | assumption | exact Ne.symm (by assumption) | omega) only [hd, Int.toNat_natCast, ↓hla, ↓ZD, ZU, ne_eq, Zaa, Zab, false_implies, Zac, Zad, Zae, Zaf, Zag, Zah, Zai, Zaj, Zak, Zal, Zam, Zan, Zao, Zap, Zaq, Zar, Zas, Zat, Zau, Zav, Zaw, Zax, Zay, Zaz, Za0, Za1, decide_true, decide_false, beq_self_eq_true, cond_true, cond_false, if_false, if_true, reduceIte, reduceCtorEq, not_true_eq_false, not_false_eq_true, true_and, and_true, forall_const, false_and, and_false, implies_true, Za2, Za3, Za4, Za5]
      refine CallEF.pure (hp i hlt) ?_
      cases hpp : p i with
      | true =>
        have : r = i := by
          rcases hr with ⟨k, h1, h2, h3, h4⟩ | ⟨h1, h2⟩
          · have : k = i := by
              rcases Nat.lt_trichotomy k i with h | h | h
              · rw [ha k h] at h3; cases h3
              · exact h
              · rw [h4 i h] at hpp; cases hpp
            rw [h1, this]
          · rw [h2 i hlt] at hpp; cases hpp
        simp (disch := first | assumption | exact Ne.symm (by assumption) | omega) only [this, ↓ZD, ZU, ne_eq, Zaa, Zab, false_implies, Zac, Zad, Zae, Zaf, Zag, Zah, Zai, Zaj, Zak, Zal, Zam, Zan, Zao, Zap, Zaq, Zar, Zas, Zat, Zau, Zav, Zaw, Zax, Zay, Zaz, Za0, Za1, decide_true, decide_false, beq_self_eq_true, cond_true, cond_false, if_false, if_true, reduceIte, reduceCtorEq, not_true_eq_false, not_false_eq_true, true_and, and_true, forall_const, false_and, and_false, implies_true, Za2, Za3, Za4, Za5]
      | false =>
        simp (disch := first | assumption | exact Ne.symm (by assumption) | omega) only [↓ZD, ZU, ne_eq, Zaa, Zab, false_implies, Zac, Zad, Zae, Zaf, Zag, Zah, Zai, Zaj, Zak, Zal, Zam, Zan, Zao, Zap, Zaq, Zar, Zas, Zat, Zau, Zav, Zaw, Zax, Zay, Zaz, Za0, Za1, decide_true, decide_false, beq_self_eq_true, cond_true, cond_false, if_false, if_true, reduceIte, reduceCtorEq, not_true_eq_false, not_false_eq_true, true_and, and_true, forall_const, false_and, and_false, implies_true, Za2, Za3, Za4, Za5]
        refine invK.on (i + 1) ⟨by omega, fun j hj => ?_⟩ (by omega) ?_ ?_
        · by_cases e : j = i
          · rw [e]; exact hpp
          · exact ha j (by omega)
        · simp only [Le_nil, Le_cons]
          simp (disch := first | assumption | exact Ne.symm (by assumption) | omega) only [↓ZD, ZU, ne_eq, Zaa, Zab, false_implies, Zac, Zad, Zae, Zaf, Zag, Zah, Zai, Zaj, Zak, Zal, Zam, Zan, Zao, Zap, Zaq, Zar, Zas, Zat, Zau, Zav, Zaw, Zax, Zay, Zaz, Za0, Za1, decide_true, decide_false, beq_self_eq_true, cond_true, cond_false, if_false, if_true, reduceIte, reduceCtorEq, not_true_eq_false, not_false_eq_true, true_and, and_true, forall_const, false_and, and_false, implies_true, Za2, Za3, Za4, Za5]
          trivial
        · simp only [HLe_nil]
    · have hd : decide ((i : Int) < (n : Int)) = false := by simp; omega
      have : r = -1 := by
        rcases hr with ⟨k, h1, h2, h3, h4⟩ | ⟨h1, h2⟩
        · rw [ha k (by omega)] at h3; cases h3
        · exact h1
      simp (disch := first | assumption | exact Ne.symm (by assumption) | omega) only [hd, this, ↓ZD, ZU, ne_eq, Zaa, Zab, false_implies, Zac, Zad, Zae, Zaf, Zag, Zah, Zai, Zaj, Zak, Zal, Zam, Zan, Zao, Zap, Zaq, Zar, Zas, Zat, Zau, Zav, Zaw, Zax, Zay, Zaz, Za0, Za1, decide_true, decide_false, beq_self_eq_true, cond_true, cond_false, if_false, if_true, reduceIte, reduceCtorEq, not_true_eq_false, not_false_eq_true, true_and, and_true, forall_const, false_and, and_false, implies_true, Za2, Za3, Za4, Za5]
theorem f36_pure (F : Base) {ca : List Value} {a : Ty} (ha : RepT F ca a) (m : Bool) (h : PureV Tryd.prog F 56 #[.agg ca.toArray] (.bool m)) : PureV Tryd.prog F 66 #[.agg ca.toArray] (.bool (!m)) := by
  obtain ⟨_, _, _, _, _, _, _, _, rfl⟩ := ha.form
  refine pureV_of_svc mixed Tryd.func66 low66 (Nat.le_of_ble_eq_true rfl) (fun w0 => ?_)
  simp (disch := first | assumption | exact Ne.symm (by assumption) | omega) only [fu66, ↓ZD, ZU, ne_eq, Zaa, Zab, false_implies, Zac, Zad, Zae, Zaf, Zag, Zah, Zai, Zaj, Zak, Zal, Zam, Zan, Zao, Zap, Zaq, Zar, Zas, Zat, Zau, Zav, Zaw, Zax, Zay, Zaz, Za0, Za1, decide_true, decide_false, beq_self_eq_true, cond_true, cond_false, if_false, if_true, reduceIte, reduceCtorEq, not_true_eq_false, not_false_eq_true, true_and, and_true, forall_const, false_and, and_false, implies_true, Za2, Za3, Za4, Za5]
  refine NewB.of fun b1 hb1 hF1 => ?_
  simp (disch := first | assumption | exact Ne.symm (by assumption) | omega) only [hF1, ↓ZD, ZU, ne_eq, Zaa, Zab, false_implies, Zac, Zad, Zae, Zaf, Zag, Zah, Zai, Zaj, Zak, Zal, Zam, Zan, Zao, Zap, Zaq, Zar, Zas, Zat, Zau, Zav, Zaw, Zax, Zay, Zaz, Za0, Za1, decide_true, decide_false, beq_self_eq_true, cond_true, cond_false, if_false, if_true, reduceIte, reduceCtorEq, not_true_eq_false, not_false_eq_true, true_and, and_true, forall_const, false_and, and_false, implies_true, Za2, Za3, Za4, Za5]
  refine CallE.pure h ?_
  simp (disch := first | assumption | exact Ne.symm (by assumption) | omega) only [hF1, ↓ZD, ZU, ne_eq, Zaa, Zab, false_implies, Zac, Zad, Zae, Zaf, Zag, Zah, Zai, Zaj, Zak, Zal, Zam, Zan, Zao, Zap, Zaq, Zar, Zas, Zat, Zau, Zav, Zaw, Zax, Zay, Zaz, Za0, Za1, decide_true, decide_false, beq_self_eq_true, cond_true, cond_false, if_false, if_true, reduceIte, reduceCtorEq, not_true_eq_false, not_false_eq_true, true_and, and_true, forall_const, false_and, and_false, implies_true, Za2, Za3, Za4, Za5]
theorem cont35 (F : Base) (a : Option Addr) (c : Nat) (es : List Ty) (g : Nat → List Value) (hn : es.length ≤ 9223372036854775807) (h1 : ∀ (i : Nat) (t : Ty), es[i]? = some t → Cl F a 4 i (g i)) (r1 : ∀ (i : Nat) (t : Ty), es[i]? = some t → RepT F (g i) t)
    (hp : ∀ (i : Nat) (t : Ty), es[i]? = some t → PureV Tryd.prog F 56 #[.agg (g i).toArray] (.bool (may t))) : PureV Tryd.prog F 57 #[.slice a es.length c, .func (.func 66) #[] #[]] (.bool (!mayL es)) := by
  obtain ⟨r, hr⟩ := fst_ex (fun i => !may (es.getD i nilT)) es.length
  have h := idx41 F a es.length c g (.func (.func 66) #[] #[]) _ r hr hn (fun i h => h1 i _ (getT h)) (fun i h => ⟨66, #[], #[], rfl, callable36, f36_pure F (r1 i _ (getT h)) _ (hp i _ (getT h))⟩)
  have e := isFst_none hr
  have e2 : ((List.range es.length).all fun i => !(!may (es.getD i nilT))) = mayL es := by
    rw [mayL_eq]
    simp only [Bool.not_not]
    apply Bool.eq_iff_iff.mpr
    rw [List.all_eq_true, List.all_eq_true]
    constructor
    · intro h x hx
      obtain ⟨i, hi, rfl⟩ := List.getElem_of_mem hx
      have := h i (List.mem_range.mpr hi)
      rw [List.getD_eq_getElem?_getD, List.getElem?_eq_getElem hi] at this; exact this
    · intro h i hi
      have hi' := List.mem_range.mp hi
      exact h _ (List.mem_of_getElem? (getT hi'))
  rw [e2] at e
  refine pureV_of_svc mixed Tryd.func57 low57 (Nat.le_of_ble_eq_true rfl) (fun w0 => ?_)
  simp (disch := first | assumption | exact Ne.symm (by assumption) | omega) only [fu57, ↓ZD, ZU, ne_eq, Zaa, Zab, false_implies, Zac, Zad, Zae, Zaf, Zag, Zah, Zai, Zaj, Zak, Zal, Zam, Zan, Zao, Zap, Zaq, Zar, Zas, Zat, Zau, Zav, Zaw, Zax, Zay, Zaz, Za0, Za1, decide_true, decide_false, beq_self_eq_true, cond_true, cond_false, if_false, if_true, reduceIte, reduceCtorEq, not_true_eq_false, not_false_eq_true, true_and, and_true, forall_const, false_and, and_false, implies_true, Za2, Za3, Za4, Za5]
  refine CallE.pure h ?_
  simp (disch := first | assumption | exact Ne.symm (by assumption) | omega) only [e, ↓ZD, ZU, ne_eq, Zaa, Zab, false_implies, Zac, Zad, Zae, Zaf, Zag, Zah, Zai, Zaj, Zak, Zal, Zam, Zan, Zao, Zap, Zaq, Zar, Zas, Zat, Zau, Zav, Zaw, Zax, Zay, Zaz, Za0, Za1, decide_true, decide_false, beq_self_eq_true, cond_true, cond_false, if_false, if_true, reduceIte, reduceCtorEq, not_true_eq_false, not_false_eq_true, true_and, and_true, forall_const, false_and, and_false, implies_true, Za2, Za3, Za4, Za5]
end Go.Proofs.YtnnieekbklmgdaaDoor
