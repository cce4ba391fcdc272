/- Layer 12: names that a row lacks. -/
import Derived.Test.YtnnieekbklmgdaaDoorSyI
import Derived.Test.YtnnieekbklmgdaaDoorTxI
namespace Go.Proofs.YtnnieekbklmgdaaDoor
open Go Go.Eng
open Int renaming reduceEq → Zaa, reduceToNat → Zaw, reduceLE → Zax, reduceLT → Zay, reduceAdd → Zaz, reduceSub → Za0, reduceNeg → Za1, reducePow → Za3, reduceNegSucc → Za5
open UInt8 renaming reduceOfNat → Zab
open Go.Eng renaming subG → Zac, lit → Zad, isPar → Zae, numb → Zaf, Wf → Zag, resV → Zah, oneCell → Zai, isB → Zaj, asB → Zak
open List renaming mapM_cons → Zal, mapM_nil → Zam
open Go.Value renaming cells → Zan
open Nat renaming reduceAdd → Zao, reduceMul → Zap, reduceMod → Zaq, reduceDiv → Zar, reduceEqDiff → Zas, reduceBEq → Zat, reduceLeDiff → Zau, reduceSub → Zav, reducePow → Za2, reduceLT → Za4
set_option linter.unusedSimpArgs false
set_option linter.unusedVariables false
set_option maxRecDepth 20000

theorem no1_pure (F : Base) (b T : Nat) {v : Value} {l : List Str} (hb : F b = some (.cells #[v] T (0, 0))) (hv : SlS F v l) (nm : Str) :
    PureV Tryd.prog F 25 #[.string (bs nm), .pointer (some ⟨b, 0, none⟩)] (.bool (!decide (nm ∈ l))) := by
  have hc := contains_pure F hv nm
  obtain ⟨a, c, rfl, -⟩ := hv
  refine pureV_of_svc mixed Tryd.func25 low25 (Nat.le_of_ble_eq_true rfl) (fun w0 => ?_)
  simp (disch := first | assumption | exact Ne.symm (by assumption) | omega) only [fu25, hb, ↓ZD, ZU, ne_eq, Zaa, Zab, false_implies, Zac, Zad, Zae, Zaf, Zag, Zah, Zai, Zaj, Zak, Zal, Zam, Zan, Zao, Zap, Zaq, Zar, Zas, Zat, Zau, Zav, Zaw, Zax, Zay, Zaz, Za0, Za1, decide_true, decide_false, beq_self_eq_true, cond_true, cond_false, if_false, if_true, reduceIte, reduceCtorEq, not_true_eq_false, not_false_eq_true, true_and, and_true, forall_const, false_and, and_false, implies_true, Za2, Za3, Za4, Za5]
  refine CallE.pure hc ?_
  simp (disch := first | assumption | exact Ne.symm (by assumption) | omega) only [↓ZD, ZU, ne_eq, Zaa, Zab, false_implies, Zac, Zad, Zae, Zaf, Zag, Zah, Zai, Zaj, Zak, Zal, Zam, Zan, Zao, Zap, Zaq, Zar, Zas, Zat, Zau, Zav, Zaw, Zax, Zay, Zaz, Za0, Za1, decide_true, decide_false, beq_self_eq_true, cond_true, cond_false, if_false, if_true, reduceIte, reduceCtorEq, not_true_eq_false, not_false_eq_true, true_and, and_true, forall_const, false_and, and_false, implies_true, Za2, Za3, Za4, Za5]
theorem no_does (F : Base) (a : Option Addr) (n c : Nat) : Does Tryd.prog F 24 #[.slice a n c] [] (fun v H => ∃ b, v = .func (.func 25) #[] #[.pointer (some ⟨b, 0, none⟩)] ∧ H = [(b, .cells #[.slice a n c] 30 (0, 0))] ∧ F b = none) := by
  refine does_of_svc mixed Tryd.func24 low24 (Nat.le_of_ble_eq_true rfl) (fun w0 hw0 => ?_)
  simp (disch := first | assumption | exact Ne.symm (by assumption) | omega) only [fu24, ↓ZD, ZU, ne_eq, Zaa, Zab, false_implies, Zac, Zad, Zae, Zaf, Zag, Zah, Zai, Zaj, Zak, Zal, Zam, Zan, Zao, Zap, Zaq, Zar, Zas, Zat, Zau, Zav, Zaw, Zax, Zay, Zaz, Za0, Za1, decide_true, decide_false, beq_self_eq_true, cond_true, cond_false, if_false, if_true, reduceIte, reduceCtorEq, not_true_eq_false, not_false_eq_true, true_and, and_true, forall_const, false_and, and_false, implies_true, Za2, Za3, Za4, Za5]
  refine NewB.of fun b1 hb1 hF1 => ?_
  simp (disch := first | assumption | exact Ne.symm (by assumption) | omega) only [hF1, ↓ZD, ZU, ne_eq, Zaa, Zab, false_implies, Zac, Zad, Zae, Zaf, Zag, Zah, Zai, Zaj, Zak, Zal, Zam, Zan, Zao, Zap, Zaq, Zar, Zas, Zat, Zau, Zav, Zaw, Zax, Zay, Zaz, Za0, Za1, decide_true, decide_false, beq_self_eq_true, cond_true, cond_false, if_false, if_true, reduceIte, reduceCtorEq, not_true_eq_false, not_false_eq_true, true_and, and_true, forall_const, false_and, and_false, implies_true, Za2, Za3, Za4, Za5]
  exact ⟨b1, rfl, rfl, hF1⟩
theorem callNo1 : callable Tryd.prog 25 = true := by kernel_rfl
theorem callNo : callable Tryd.prog 24 = true := by kernel_rfl
theorem idxSf_pure (F : Base) {v : Value} {l : List Str} (h : SlS F v l) (fv : Value) (p : Str → Bool) (hp : ∀ x ∈ l, PureF Tryd.prog F fv [.string (bs x)] (.bool (p x))) : PureV Tryd.prog F 45 #[v, fv] (.int .i64 (idxI p l)) := by
  obtain ⟨a, c, rfl, hc, hl, hh⟩ := h
  have hr := idxI_isFst p [] l
  revert hr
  generalize idxI p l = r
  intro hr
  refine pureV_of_svc mixed Tryd.func45 low45 (Nat.le_of_ble_eq_true rfl) (fun w0 => ?_)
  simp (disch := first | assumption | exact Ne.symm (by assumption) | omega) only [fu45, ↓ZD, ZU, ne_eq, Zaa, Zab, false_implies, Zac, Zad, Zae, Zaf, Zag, Zah, Zai, Zaj, Zak, Zal, Zam, Zan, Zao, Zap, Zaq, Zar, Zas, Zat, Zau, Zav, Zaw, Zax, Zay, Zaz, Za0, Za1, decide_true, decide_false, beq_self_eq_true, cond_true, cond_false, if_false, if_true, reduceIte, reduceCtorEq, not_true_eq_false, not_false_eq_true, true_and, and_true, forall_const, false_and, and_false, implies_true, Za2, Za3, Za4, Za5]
  refine LoopL.inv (α := Nat) (fun i => i ≤ l.length ∧ ∀ j, j < i → p (l.getD j []) = false)
    (fun i => [(0, some (.slice a l.length c)), (1, some fv), (7, some (.int .i64 l.length)), (8, some (.int .i64 i))]) (fun i => []) (fun i => l.length - i) 0 ⟨Nat.zero_le _, fun j h => absurd h (by omega)⟩ (by (simp only [Le_nil, Le_cons]; simp (disch := first | assumption | exact Ne.symm (by assumption) | omega) only [↓ZD, ZU, ne_eq, Zaa, Zab, false_implies, Zac, Zad, Zae, Zaf, Zag, Zah, Zai, Zaj, Zak, Zal, Zam, Zan, Zao, Zap, Zaq, Zar, Zas, Zat, Zau, Zav, Zaw, Zax, Zay, Zaz, Za0, Za1, decide_true, decide_false, beq_self_eq_true, cond_true, cond_false, if_false, if_true, reduceIte, reduceCtorEq, not_true_eq_false, not_false_eq_true, true_and, and_true, forall_const, false_and, and_false, implies_true, Za2, Za3, Za4, Za5]; try trivial)) (by (simp only [HLe_nil, HLe_cons]; try (simp (disch := first | assumption | exact Ne.symm (by assumption) | omega) only [↓ZD, ZU, ne_eq, Zaa, Zab, false_implies, Zac, Zad, Zae, Zaf, Zag, Zah, Zai, Zaj, Zak, Zal, Zam, Zan, Zao, Zap, Zaq, Zar, Zas, Zat, Zau, Zav, Zaw, Zax, Zay, Zaz, Za0, Za1, decide_true, decide_false, beq_self_eq_true, cond_true, cond_false, if_false, if_true, reduceIte, reduceCtorEq, not_true_eq_false, not_false_eq_true, true_and, and_true, forall_const, false_and, and_false, implies_true, Za2, Za3, Za4, Za5]))) ?_
  rintro i ⟨hi, ha⟩
  by_cases hlt : i < l.length
  · have hd : decide ((i : Int) < (l.length : Int)) = true := by simp; omega
    have gx := getS hlt
    obtain ⟨ba, oa, rfl, hla⟩ := (hh.1 i _ gx).ld1
    simp only [Nat.mul_one] at hla
    have hpx := hp _ (List.mem_of_getElem? gx)
    simp (disch := first | assumption | exact Ne.symm (by assumption) | omega) only [hd, Nat.mul_one, ↓ZD, ZU, ne_eq, Zaa, Zab, false_implies, Zac, Zad, Zae, Zaf, Zag, Zah, Zai, Zaj, Zak, Zal, Zam, Zan, Zao, Zap, Zaq, Zar, Zas, Zat, Zau, Zav, Zaw, Zax, Zay, Zaz, Za0, Za1, decide_true, decide_false, beq_self_eq_true, cond_true, cond_false, if_false, if_true, reduceIte, reduceCtorEq, not_true_eq_false, not_false_eq_true, true_and, and_true, forall_const, false_and, and_false, implies_true, Za2, Za3, Za4, Za5]
    refine conj.of (by omega) ?_
    simp (disch := first | assumption | exact Ne.symm (by assumption) | omega) only [hd, Int.toNat_natCast, Nat.mul_one, ↓hla, ↓ZD, ZU, ne_eq, Zaa, Zab, false_implies, Zac, Zad, Zae, Zaf, Zag, Zah, Zai, Zaj, Zak, Zal, Zam, Zan, Zao, Zap, Zaq, Zar, Zas, Zat, Zau, Zav, Zaw, Zax, Zay, Zaz, Za0, Za1, decide_true, decide_false, beq_self_eq_true, cond_true, cond_false, if_false, if_true, reduceIte, reduceCtorEq, not_true_eq_false, not_false_eq_true, true_and, and_true, forall_const, false_and, and_false, implies_true, Za2, Za3, Za4, Za5]
    refine CallEF.pure hpx ?_
    cases hpp : p (l.getD i []) with
    | true =>
      have : r = i := by
        rcases hr with ⟨k, h1, h2, h3, h4⟩ | ⟨h1, h2⟩
        · have : k = i := by
            rcases Nat.lt_trichotomy k i with h | h | h
            · have := ha k h; simp only at h3; rw [this] at h3; cases h3
            · exact h
            · have := h4 i h; simp only at this; rw [this] at hpp; cases hpp
          rw [h1, this]
        · have := h2 i hlt; simp only at this; rw [this] at hpp; cases hpp
      simp (disch := first | assumption | exact Ne.symm (by assumption) | omega) only [this, ↓ZD, ZU, ne_eq, Zaa, Zab, false_implies, Zac, Zad, Zae, Zaf, Zag, Zah, Zai, Zaj, Zak, Zal, Zam, Zan, Zao, Zap, Zaq, Zar, Zas, Zat, Zau, Zav, Zaw, Zax, Zay, Zaz, Za0, Za1, decide_true, decide_false, beq_self_eq_true, cond_true, cond_false, if_false, if_true, reduceIte, reduceCtorEq, not_true_eq_false, not_false_eq_true, true_and, and_true, forall_const, false_and, and_false, implies_true, Za2, Za3, Za4, Za5]
    | false =>
      simp (disch := first | assumption | exact Ne.symm (by assumption) | omega) only [↓ZD, ZU, ne_eq, Zaa, Zab, false_implies, Zac, Zad, Zae, Zaf, Zag, Zah, Zai, Zaj, Zak, Zal, Zam, Zan, Zao, Zap, Zaq, Zar, Zas, Zat, Zau, Zav, Zaw, Zax, Zay, Zaz, Za0, Za1, decide_true, decide_false, beq_self_eq_true, cond_true, cond_false, if_false, if_true, reduceIte, reduceCtorEq, not_true_eq_false, not_false_eq_true, true_and, and_true, forall_const, false_and, and_false, implies_true, Za2, Za3, Za4, Za5]
      refine invK.on (i + 1) (⟨by omega, fun j hj => by
        by_cases e : j = i
        · rw [e]; exact hpp
        · exact ha j (by omega)⟩) (by omega) (by (simp only [Le_nil, Le_cons]; simp (disch := first | assumption | exact Ne.symm (by assumption) | omega) only [↓ZD, ZU, ne_eq, Zaa, Zab, false_implies, Zac, Zad, Zae, Zaf, Zag, Zah, Zai, Zaj, Zak, Zal, Zam, Zan, Zao, Zap, Zaq, Zar, Zas, Zat, Zau, Zav, Zaw, Zax, Zay, Zaz, Za0, Za1, decide_true, decide_false, beq_self_eq_true, cond_true, cond_false, if_false, if_true, reduceIte, reduceCtorEq, not_true_eq_false, not_false_eq_true, true_and, and_true, forall_const, false_and, and_false, implies_true, Za2, Za3, Za4, Za5]; try trivial)) (by (simp only [HLe_nil, HLe_cons]; try (simp (disch := first | assumption | exact Ne.symm (by assumption) | omega) only [↓ZD, ZU, ne_eq, Zaa, Zab, false_implies, Zac, Zad, Zae, Zaf, Zag, Zah, Zai, Zaj, Zak, Zal, Zam, Zan, Zao, Zap, Zaq, Zar, Zas, Zat, Zau, Zav, Zaw, Zax, Zay, Zaz, Za0, Za1, decide_true, decide_false, beq_self_eq_true, cond_true, cond_false, if_false, if_true, reduceIte, reduceCtorEq, not_true_eq_false, not_false_eq_true, true_and, and_true, forall_const, false_and, and_false, implies_true, Za2, Za3, Za4, Za5])))
  · have hd : decide ((i : Int) < (l.length : Int)) = false := by simp; omega
    have : r = -1 := by
      rcases hr with ⟨k, h1, h2, h3, h4⟩ | ⟨h1, h2⟩
      · have := ha k (by omega); simp only at h3; rw [this] at h3; cases h3
      · exact h1
    simp (disch := first | assumption | exact Ne.symm (by assumption) | omega) only [hd, this, ↓ZD, ZU, ne_eq, Zaa, Zab, false_implies, Zac, Zad, Zae, Zaf, Zag, Zah, Zai, Zaj, Zak, Zal, Zam, Zan, Zao, Zap, Zaq, Zar, Zas, Zat, Zau, Zav, Zaw, Zax, Zay, Zaz, Za0, Za1, decide_true, decide_false, beq_self_eq_true, cond_true, cond_false, if_false, if_true, reduceIte, reduceCtorEq, not_true_eq_false, not_false_eq_true, true_and, and_true, forall_const, false_and, and_false, implies_true, Za2, Za3, Za4, Za5]
theorem anyS_pure (F : Base) {v : Value} {l : List Str} (h : SlS F v l) (fv : Value) (p : Str → Bool) (hp : ∀ x ∈ l, PureF Tryd.prog F fv [.string (bs x)] (.bool (p x))) : PureV Tryd.prog F 28 #[v, fv] (.bool (l.any p)) := by
  have hi := idxSf_pure F h fv p hp
  have e := idxI_mem p l
  obtain ⟨a, c, rfl, -⟩ := h
  refine pureV_of_svc mixed Tryd.func28 low28 (Nat.le_of_ble_eq_true rfl) (fun w0 => ?_)
  simp (disch := first | assumption | exact Ne.symm (by assumption) | omega) only [fu28, ↓ZD, ZU, ne_eq, Zaa, Zab, false_implies, Zac, Zad, Zae, Zaf, Zag, Zah, Zai, Zaj, Zak, Zal, Zam, Zan, Zao, Zap, Zaq, Zar, Zas, Zat, Zau, Zav, Zaw, Zax, Zay, Zaz, Za0, Za1, decide_true, decide_false, beq_self_eq_true, cond_true, cond_false, if_false, if_true, reduceIte, reduceCtorEq, not_true_eq_false, not_false_eq_true, true_and, and_true, forall_const, false_and, and_false, implies_true, Za2, Za3, Za4, Za5]
  refine CallE.pure hi ?_
  simp (disch := first | assumption | exact Ne.symm (by assumption) | omega) only [e, ↓ZD, ZU, ne_eq, Zaa, Zab, false_implies, Zac, Zad, Zae, Zaf, Zag, Zah, Zai, Zaj, Zak, Zal, Zam, Zan, Zao, Zap, Zaq, Zar, Zas, Zat, Zau, Zav, Zaw, Zax, Zay, Zaz, Za0, Za1, decide_true, decide_false, beq_self_eq_true, cond_true, cond_false, if_false, if_true, reduceIte, reduceCtorEq, not_true_eq_false, not_false_eq_true, true_and, and_true, forall_const, false_and, and_false, implies_true, Za2, Za3, Za4, Za5]
/-- Does a row have a name that the other one lacks? -/
def lacks (names l : List Str) : Bool := l.any fun x => !decide (x ∈ names)
theorem lacks_pure (F : Base) {v u : Value} {l names : List Str} (hl : SlS F v l) (hn : SlS F u names) (b T : Nat) (hb : F b = some (.cells #[u] T (0, 0))) :
    PureV Tryd.prog F 28 #[v, .func (.func 25) #[] #[.pointer (some ⟨b, 0, none⟩)]] (.bool (lacks names l)) :=
  anyS_pure F hl (.func (.func 25) #[] #[.pointer (some ⟨b, 0, none⟩)]) (fun x => !decide (x ∈ names)) fun x hx => ⟨25, #[], #[.pointer (some ⟨b, 0, none⟩)], rfl, callNo1, no1_pure F b T hb hn x⟩
def actS : Str := [65, 99, 116, 105, 111, 110]
def tyNames (s : Sch) : List Str := s.types.map (·.name)
def acNames (s : Sch) : List Str := s.acts.map (·.id)
def badT (s : Sch) (t : ET) : Bool := !pathB t.name || t.name == actS || lacks (tyNames s) t.inn || !rowB s t.attrs
def badA (s : Sch) (a : AC) : Bool := lacks (acNames s) a.inn || lacks (tyNames s) a.prs || lacks (tyNames s) a.res || !rowB s a.ctx
noncomputable def chkS (s : Sch) : Int :=
  if twiceL [] (tyNames s) || twiceL [] (acNames s) then 13 else if s.types.any (badT s) then 40 else if s.acts.any (badA s) then 40 else if s.acts.any (fun a => leadsA s a.id a.id) then 21 else 0
/-- Small enough to be walked. -/
def OkS (s : Sch) : Prop := smallIn s ∧ (∀ t ∈ s.types, depth (.mk 8 [] [] t.attrs) ≤ 1000000 ∧ t.name.length ≤ 1000000000) ∧ (∀ a ∈ s.acts, depth (.mk 8 [] [] a.ctx) ≤ 1000000) ∧ s.types.length ≤ 1000 ∧ s.acts.length ≤ 1000
end Go.Proofs.YtnnieekbklmgdaaDoor
