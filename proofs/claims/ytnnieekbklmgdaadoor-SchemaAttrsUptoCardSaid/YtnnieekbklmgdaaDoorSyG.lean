/- Layer 12: what is above; what is there twice. -/
import Derived.Test.YtnnieekbklmgdaaDoorSyF
namespace Go.Proofs.YtnnieekbklmgdaaDoor
open Go Go.Eng
open Int renaming reduceEq → Zaa, reduceToNat → Zaw, reduceLE → Zax, reduceLT → Zay, reduceAdd → Zaz, reduceSub → Za0, reduceNeg → Za1, reducePow → Za3, reduceNegSucc → Za5
open UInt8 renaming reduceOfNat → Zab
open Go.Eng renaming subG → Zac, lit → Zad, isPar → Zae, numb → Zaf, Wf → Zag, resV → Zah, oneCell → Zai, isB → Zaj, asB → Zak
open List renaming mapM_cons → Zal, mapM_nil → Zam
open Go.Value renaming cells → Zan
open Nat renaming reduceAdd → Zao, reduceMul → Zap, reduceMod → Zaq, reduceDiv → Zar, reduceEqDiff → Zas, reduceBEq → Zat, reduceLeDiff → Zau, reduceSub → Zav, reducePow → Za2, reduceLT → Za4
set_option linter.unusedSimpArgs false
set_option linter.unusedVariables false
set_option maxRecDepth 20000

def smallIn (s : Sch) : Prop := (s.types.flatMap (·.inn)).length ≤ 100000 ∧ (s.acts.flatMap (·.inn)).length ≤ 100000
theorem flat_le {α : Type} (f : α → List Str) : ∀ {l : List α} {x : α}, x ∈ l → (f x).length ≤ (l.flatMap f).length
  | y :: l, x, h => by
    rw [List.flatMap_cons, List.length_append]
    rcases List.mem_cons.1 h with rfl | h
    · omega
    · have := flat_le f h; omega
theorem tyIn_mem {s : Sch} {x y : Str} (h : y ∈ tyIn s x) : y ∈ s.types.flatMap (·.inn) := by
  unfold tyIn at h
  split at h
  · cases h
  · rename_i h0
    obtain ⟨i, hi⟩ : ∃ i : Nat, tyI s x = i := ⟨(tyI s x).toNat, by omega⟩
    rw [hi, Int.toNat_natCast] at h
    have hf := idxI_isFst (fun t : ET => t.name == x) nilE s.types
    have : idxI (fun t : ET => t.name == x) s.types = (i : Int) := hi
    rw [this] at hf
    exact List.mem_flatMap.2 ⟨_, List.mem_of_getElem? (getE (isFst_at hf).1), h⟩
theorem acIn_mem {s : Sch} {x y : Str} (h : y ∈ acIn s x) : y ∈ s.acts.flatMap (·.inn) := by
  unfold acIn at h
  split at h
  · cases h
  · rename_i h0
    obtain ⟨i, hi⟩ : ∃ i : Nat, acI s x = i := ⟨(acI s x).toNat, by omega⟩
    rw [hi, Int.toNat_natCast] at h
    have hf := idxI_isFst (fun t : AC => t.id == x) nilC s.acts
    have : idxI (fun t : AC => t.id == x) s.acts = (i : Int) := hi
    rw [this] at hf
    exact List.mem_flatMap.2 ⟨_, List.mem_of_getElem? (getC (isFst_at hf).1), h⟩
theorem tyIn_len {s : Sch} (hz : smallIn s) (x : Str) : (tyIn s x).length ≤ 100000 := by
  unfold tyIn
  split
  · simp
  · rename_i h0
    obtain ⟨i, hi⟩ : ∃ i : Nat, tyI s x = i := ⟨(tyI s x).toNat, by omega⟩
    rw [hi, Int.toNat_natCast]
    have hf := idxI_isFst (fun t : ET => t.name == x) nilE s.types
    have : idxI (fun t : ET => t.name == x) s.types = (i : Int) := hi
    rw [this] at hf
    exact Nat.le_trans (flat_le (·.inn) (List.mem_of_getElem? (getE (isFst_at hf).1))) hz.1
theorem acIn_len {s : Sch} (hz : smallIn s) (x : Str) : (acIn s x).length ≤ 100000 := by
  unfold acIn
  split
  · simp
  · rename_i h0
    obtain ⟨i, hi⟩ : ∃ i : Nat, acI s x = i := ⟨(acI s x).toNat, by omega⟩
    rw [hi, Int.toNat_natCast]
    have hf := idxI_isFst (fun t : AC => t.id == x) nilC s.acts
    have : idxI (fun t : AC => t.id == x) s.acts = (i : Int) := hi
    rw [this] at hf
    exact Nat.le_trans (flat_le (·.inn) (List.mem_of_getElem? (getC (isFst_at hf).1))) hz.2
theorem callAb : callable Tryd.prog 39 = true := by kernel_rfl
theorem callGr : callable Tryd.prog 48 = true := by kernel_rfl
theorem stp_call_guard {P : Program} {X : List Nat} {F : Base} {w0 : World} {N f l : Nat} {args : List Eng.X} {d : Option Nat} {U : Fr} {C : Cf} {H : Hp} {next : Fr → Cf → Hp → Prop} {vs : List Value} (hr : rds U C (chain C (some l)) args = some vs)
    (h1 : Wf U C (chain C (some l)) (chain C (some l)) → @CallE P X F w0 f vs.toArray H ⟨fun v H' => put d (chain C (some l)) v U C H' next⟩) (h2 : NW U C (chain C (some l)) → skp d (chain C (some l)) U C (fun U C => next U C H)) :
    stp P X F w0 N ⟨d, .call f args, some l, .e⟩ U C H next := by
  unfold stp
  simp only [hr]
  exact ⟨h1, h2⟩
open Classical in
noncomputable def above (s : Sch) (a b : Str) : Bool := decide (Reach (tyIn s) a b)
open Classical in
noncomputable def leadsA (s : Sch) (a b : Str) : Bool := decide (Reach (acIn s) a b)
theorem above_pure (F : Base) {ch : List Value} {s : Sch} (h : RepH F ch s) (hz : smallIn s) (low high : Str) : PureV Tryd.prog F 17 #[.agg ch.toArray, .string (bs low), .string (bs high)] (.bool (above s low high)) := by
  have hl := fun b (H : Hp) (hb : rdObj F H b = some (.cells ch.toArray 25 (0, 0))) => leads_pure (rdObj F H) low high (.func (.func 39) #[] #[.pointer (some ⟨b, 0, none⟩)]) (tyIn s) (s.types.flatMap (·.inn)) (fun x y => tyIn_mem) hz.1
    (fun x => by
      obtain ⟨v, h1, h2⟩ := above1_pure (rdObj F H) b hb (h.mono le_up) x
      exact ⟨v, h1, 39, #[], #[.pointer (some ⟨b, 0, none⟩)], rfl, callAb, h2⟩)
  unfold above
  cases h with
  | mk a1 a2 c1 c2 ts xs g1 g2 hc1 hc2 hl1 hl2 h1 h2 =>
    refine pureV_of_svc mixed Tryd.func17 low17 (Nat.le_of_ble_eq_true rfl) (fun w0 => ?_)
    simp (disch := first | assumption | exact Ne.symm (by assumption) | omega) only [fu17, ↓ZD, ZU, ne_eq, Zaa, Zab, false_implies, Zac, Zad, Zae, Zaf, Zag, Zah, Zai, Zaj, Zak, Zal, Zam, Zan, Zao, Zap, Zaq, Zar, Zas, Zat, Zau, Zav, Zaw, Zax, Zay, Zaz, Za0, Za1, decide_true, decide_false, beq_self_eq_true, cond_true, cond_false, if_false, if_true, reduceIte, reduceCtorEq, not_true_eq_false, not_false_eq_true, true_and, and_true, forall_const, false_and, and_false, implies_true, Za2, Za3, Za4, Za5]
    refine NewB.of fun b1 hb1 hF1 => ?_
    simp (disch := first | assumption | exact Ne.symm (by assumption) | omega) only [hF1, ↓ZD, ZU, ne_eq, Zaa, Zab, false_implies, Zac, Zad, Zae, Zaf, Zag, Zah, Zai, Zaj, Zak, Zal, Zam, Zan, Zao, Zap, Zaq, Zar, Zas, Zat, Zau, Zav, Zaw, Zax, Zay, Zaz, Za0, Za1, decide_true, decide_false, beq_self_eq_true, cond_true, cond_false, if_false, if_true, reduceIte, reduceCtorEq, not_true_eq_false, not_false_eq_true, true_and, and_true, forall_const, false_and, and_false, implies_true, Za2, Za3, Za4, Za5]
    refine CallE.pureH (hl b1 _ (by simp (disch := first | assumption | exact Ne.symm (by assumption) | omega) only [hF1, ↓ZD, ZU, ne_eq, Zaa, Zab, false_implies, Zac, Zad, Zae, Zaf, Zag, Zah, Zai, Zaj, Zak, Zal, Zam, Zan, Zao, Zap, Zaq, Zar, Zas, Zat, Zau, Zav, Zaw, Zax, Zay, Zaz, Za0, Za1, decide_true, decide_false, beq_self_eq_true, cond_true, cond_false, if_false, if_true, reduceIte, reduceCtorEq, not_true_eq_false, not_false_eq_true, true_and, and_true, forall_const, false_and, and_false, implies_true, Za2, Za3, Za4, Za5])) ?_
    simp (disch := first | assumption | exact Ne.symm (by assumption) | omega) only [↓ZD, ZU, ne_eq, Zaa, Zab, false_implies, Zac, Zad, Zae, Zaf, Zag, Zah, Zai, Zaj, Zak, Zal, Zam, Zan, Zao, Zap, Zaq, Zar, Zas, Zat, Zau, Zav, Zaw, Zax, Zay, Zaz, Za0, Za1, decide_true, decide_false, beq_self_eq_true, cond_true, cond_false, if_false, if_true, reduceIte, reduceCtorEq, not_true_eq_false, not_false_eq_true, true_and, and_true, forall_const, false_and, and_false, implies_true, Za2, Za3, Za4, Za5]
theorem groups_does (F : Base) {ch : List Value} {s : Sch} (h : RepH F ch s) : Does Tryd.prog F 31 #[.agg ch.toArray] [] (fun v H => ∃ b, v = .func (.func 48) #[] #[.pointer (some ⟨b, 0, none⟩)] ∧ H = [(b, .cells ch.toArray 25 (0, 0))] ∧ F b = none) := by
  cases h with
  | mk a1 a2 c1 c2 ts xs g1 g2 hc1 hc2 hl1 hl2 h1 h2 =>
    refine does_of_svc mixed Tryd.func31 low31 (Nat.le_of_ble_eq_true rfl) (fun w0 hw0 => ?_)
    simp (disch := first | assumption | exact Ne.symm (by assumption) | omega) only [fu31, ↓ZD, ZU, ne_eq, Zaa, Zab, false_implies, Zac, Zad, Zae, Zaf, Zag, Zah, Zai, Zaj, Zak, Zal, Zam, Zan, Zao, Zap, Zaq, Zar, Zas, Zat, Zau, Zav, Zaw, Zax, Zay, Zaz, Za0, Za1, decide_true, decide_false, beq_self_eq_true, cond_true, cond_false, if_false, if_true, reduceIte, reduceCtorEq, not_true_eq_false, not_false_eq_true, true_and, and_true, forall_const, false_and, and_false, implies_true, Za2, Za3, Za4, Za5]
    refine NewB.of fun b1 hb1 hF1 => ?_
    simp (disch := first | assumption | exact Ne.symm (by assumption) | omega) only [hF1, ↓ZD, ZU, ne_eq, Zaa, Zab, false_implies, Zac, Zad, Zae, Zaf, Zag, Zah, Zai, Zaj, Zak, Zal, Zam, Zan, Zao, Zap, Zaq, Zar, Zas, Zat, Zau, Zav, Zaw, Zax, Zay, Zaz, Za0, Za1, decide_true, decide_false, beq_self_eq_true, cond_true, cond_false, if_false, if_true, reduceIte, reduceCtorEq, not_true_eq_false, not_false_eq_true, true_and, and_true, forall_const, false_and, and_false, implies_true, Za2, Za3, Za4, Za5]
    exact ⟨b1, rfl, rfl, hF1⟩
theorem leadsA_pure (F : Base) {ch : List Value} {s : Sch} (h : RepH F ch s) (hz : smallIn s) (low high : Str) (b : Nat) (hb : F b = some (.cells ch.toArray 25 (0, 0))) :
    PureV Tryd.prog F 30 #[.string (bs low), .string (bs high), .func (.func 48) #[] #[.pointer (some ⟨b, 0, none⟩)]] (.bool (leadsA s low high)) :=
  leads_pure F low high (.func (.func 48) #[] #[.pointer (some ⟨b, 0, none⟩)]) (acIn s) (s.acts.flatMap (·.inn)) (fun x y => acIn_mem) hz.2
    (fun x => by
      obtain ⟨v, h1, h2⟩ := groups1_pure F b hb h x
      exact ⟨v, h1, 48, #[], #[.pointer (some ⟨b, 0, none⟩)], rfl, callGr, h2⟩)
theorem actIn_pure (F : Base) {ch : List Value} {s : Sch} (h : RepH F ch s) (hz : smallIn s) (low high : Str) : PureV Tryd.prog F 19 #[.agg ch.toArray, .string (bs low), .string (bs high)] (.bool (low == high || leadsA s low high)) := by
  have hg := groups_does F h
  have hla := fun b (H : Hp) (hb : rdObj F H b = some (.cells ch.toArray 25 (0, 0))) => leadsA_pure (rdObj F H) (h.mono le_up) hz low high b hb
  cases h with
  | mk a1 a2 c1 c2 ts xs g1 g2 hc1 hc2 hl1 hl2 h1 h2 =>
    refine pureV_of_svc mixed Tryd.func19 low19 (Nat.le_of_ble_eq_true rfl) (fun w0 => ?_)
    simp (disch := first | assumption | exact Ne.symm (by assumption) | omega) only [fu19, ↓ZD, ZU, ne_eq, Zaa, Zab, false_implies, Zac, Zad, Zae, Zaf, Zag, Zah, Zai, Zaj, Zak, Zal, Zam, Zan, Zao, Zap, Zaq, Zar, Zas, Zat, Zau, Zav, Zaw, Zax, Zay, Zaz, Za0, Za1, decide_true, decide_false, beq_self_eq_true, cond_true, cond_false, if_false, if_true, reduceIte, reduceCtorEq, not_true_eq_false, not_false_eq_true, true_and, and_true, forall_const, false_and, and_false, implies_true, Za2, Za3, Za4, Za5]
    refine NewB.of fun b1 hb1 hF1 => ?_
    simp (disch := first | assumption | exact Ne.symm (by assumption) | omega) only [hF1, ↓ZD, ZU, ne_eq, Zaa, Zab, false_implies, Zac, Zad, Zae, Zaf, Zag, Zah, Zai, Zaj, Zak, Zal, Zam, Zan, Zao, Zap, Zaq, Zar, Zas, Zat, Zau, Zav, Zaw, Zax, Zay, Zaz, Za0, Za1, decide_true, decide_false, beq_self_eq_true, cond_true, cond_false, if_false, if_true, reduceIte, reduceCtorEq, not_true_eq_false, not_false_eq_true, true_and, and_true, forall_const, false_and, and_false, implies_true, Za2, Za3, Za4, Za5]
    cases hlh : (low == high) with
    | true =>
      refine stp_call_guard (vs := [.agg #[.slice a1 ts.length c1, .slice a2 xs.length c2]]) (by simp (disch := first | assumption | exact Ne.symm (by assumption) | omega) only [↓ZD, ZU, ne_eq, Zaa, Zab, false_implies, Zac, Zad, Zae, Zaf, Zag, Zah, Zai, Zaj, Zak, Zal, Zam, Zan, Zao, Zap, Zaq, Zar, Zas, Zat, Zau, Zav, Zaw, Zax, Zay, Zaz, Za0, Za1, decide_true, decide_false, beq_self_eq_true, cond_true, cond_false, if_false, if_true, reduceIte, reduceCtorEq, not_true_eq_false, not_false_eq_true, true_and, and_true, forall_const, false_and, and_false, implies_true, Za2, Za3, Za4, Za5]) (fun h => ?_) (fun h => ?_)
      · have h' : (true : Bool) = false := h.1
        cases h'
      · unfold skp
        simp (disch := first | assumption | exact Ne.symm (by assumption) | omega) only [↓ZD, ZU, ne_eq, Zaa, Zab, false_implies, Zac, Zad, Zae, Zaf, Zag, Zah, Zai, Zaj, Zak, Zal, Zam, Zan, Zao, Zap, Zaq, Zar, Zas, Zat, Zau, Zav, Zaw, Zax, Zay, Zaz, Za0, Za1, decide_true, decide_false, beq_self_eq_true, cond_true, cond_false, if_false, if_true, reduceIte, reduceCtorEq, not_true_eq_false, not_false_eq_true, true_and, and_true, forall_const, false_and, and_false, implies_true, Za2, Za3, Za4, Za5]
        refine CallQ.of (.bool false) trivial ?_
        simp (disch := first | assumption | exact Ne.symm (by assumption) | omega) only [↓ZD, ZU, ne_eq, Zaa, Zab, false_implies, Zac, Zad, Zae, Zaf, Zag, Zah, Zai, Zaj, Zak, Zal, Zam, Zan, Zao, Zap, Zaq, Zar, Zas, Zat, Zau, Zav, Zaw, Zax, Zay, Zaz, Za0, Za1, decide_true, decide_false, beq_self_eq_true, cond_true, cond_false, if_false, if_true, reduceIte, reduceCtorEq, not_true_eq_false, not_false_eq_true, true_and, and_true, forall_const, false_and, and_false, implies_true, Za2, Za3, Za4, Za5]
    | false =>
      refine stp_call_guard (vs := [.agg #[.slice a1 ts.length c1, .slice a2 xs.length c2]]) (by simp (disch := first | assumption | exact Ne.symm (by assumption) | omega) only [↓ZD, ZU, ne_eq, Zaa, Zab, false_implies, Zac, Zad, Zae, Zaf, Zag, Zah, Zai, Zaj, Zak, Zal, Zam, Zan, Zao, Zap, Zaq, Zar, Zas, Zat, Zau, Zav, Zaw, Zax, Zay, Zaz, Za0, Za1, decide_true, decide_false, beq_self_eq_true, cond_true, cond_false, if_false, if_true, reduceIte, reduceCtorEq, not_true_eq_false, not_false_eq_true, true_and, and_true, forall_const, false_and, and_false, implies_true, Za2, Za3, Za4, Za5]) (fun h => ?_) (fun h => ?_)
      · refine CallE.news (hg.up le_up) ?_
        rintro v H' ⟨b, rfl, rfl, hFb⟩ hf' hd' hn'
        have hne : b1 ≠ b := fun e => hd' _ (List.mem_singleton.2 rfl) _ (List.mem_singleton.2 rfl) e.symm
        simp (disch := first | assumption | exact Ne.symm (by assumption) | omega) only [↓ZD, ZU, ne_eq, Zaa, Zab, false_implies, Zac, Zad, Zae, Zaf, Zag, Zah, Zai, Zaj, Zak, Zal, Zam, Zan, Zao, Zap, Zaq, Zar, Zas, Zat, Zau, Zav, Zaw, Zax, Zay, Zaz, Za0, Za1, decide_true, decide_false, beq_self_eq_true, cond_true, cond_false, if_false, if_true, reduceIte, reduceCtorEq, not_true_eq_false, not_false_eq_true, true_and, and_true, forall_const, false_and, and_false, implies_true, Za2, Za3, Za4, Za5]
        refine CallQ.of _ (hla b _ (by simp (disch := first | assumption | exact Ne.symm (by assumption) | omega) only [↓ZD, ZU, ne_eq, Zaa, Zab, false_implies, Zac, Zad, Zae, Zaf, Zag, Zah, Zai, Zaj, Zak, Zal, Zam, Zan, Zao, Zap, Zaq, Zar, Zas, Zat, Zau, Zav, Zaw, Zax, Zay, Zaz, Za0, Za1, decide_true, decide_false, beq_self_eq_true, cond_true, cond_false, if_false, if_true, reduceIte, reduceCtorEq, not_true_eq_false, not_false_eq_true, true_and, and_true, forall_const, false_and, and_false, implies_true, Za2, Za3, Za4, Za5])) ?_
        simp (disch := first | assumption | exact Ne.symm (by assumption) | omega) only [↓ZD, ZU, ne_eq, Zaa, Zab, false_implies, Zac, Zad, Zae, Zaf, Zag, Zah, Zai, Zaj, Zak, Zal, Zam, Zan, Zao, Zap, Zaq, Zar, Zas, Zat, Zau, Zav, Zaw, Zax, Zay, Zaz, Za0, Za1, decide_true, decide_false, beq_self_eq_true, cond_true, cond_false, if_false, if_true, reduceIte, reduceCtorEq, not_true_eq_false, not_false_eq_true, true_and, and_true, forall_const, false_and, and_false, implies_true, Za2, Za3, Za4, Za5]
      · have h' : (false : Bool) = true := h
        cases h'
theorem ractIn_pure (F : Base) {ch : List Value} {s : Sch} (h : RepH F ch s) (hz : smallIn s) (low high : Str) : PureV Tryd.prog F 20 #[.agg ch.toArray, .string (bs low), .string (bs high)] (.bool (low == high || leadsA s low high)) := by
  have hla := Leads_pure F h true low high (s.acts.flatMap (·.inn)) (fun x y => acIn_mem) hz.2 (fun x => acIn_len hz x)
  have e : (open Classical in decide (Reach (nx s true) low high)) = leadsA s low high := rfl
  rw [e] at hla
  cases h with
  | mk a1 a2 c1 c2 ts xs g1 g2 hc1 hc2 hl1 hl2 h1 h2 =>
    refine pureV_of_svc mixed Tryd.func20 low20 (Nat.le_of_ble_eq_true rfl) (fun w0 => ?_)
    simp (disch := first | assumption | exact Ne.symm (by assumption) | omega) only [fu20, ↓ZD, ZU, ne_eq, Zaa, Zab, false_implies, Zac, Zad, Zae, Zaf, Zag, Zah, Zai, Zaj, Zak, Zal, Zam, Zan, Zao, Zap, Zaq, Zar, Zas, Zat, Zau, Zav, Zaw, Zax, Zay, Zaz, Za0, Za1, decide_true, decide_false, beq_self_eq_true, cond_true, cond_false, if_false, if_true, reduceIte, reduceCtorEq, not_true_eq_false, not_false_eq_true, true_and, and_true, forall_const, false_and, and_false, implies_true, Za2, Za3, Za4, Za5]
    refine NewB.of fun b1 hb1 hF1 => ?_
    simp (disch := first | assumption | exact Ne.symm (by assumption) | omega) only [hF1, ↓ZD, ZU, ne_eq, Zaa, Zab, false_implies, Zac, Zad, Zae, Zaf, Zag, Zah, Zai, Zaj, Zak, Zal, Zam, Zan, Zao, Zap, Zaq, Zar, Zas, Zat, Zau, Zav, Zaw, Zax, Zay, Zaz, Za0, Za1, decide_true, decide_false, beq_self_eq_true, cond_true, cond_false, if_false, if_true, reduceIte, reduceCtorEq, not_true_eq_false, not_false_eq_true, true_and, and_true, forall_const, false_and, and_false, implies_true, Za2, Za3, Za4, Za5]
    refine CallQ.of _ (fun _ => hla.up) ?_
    simp (disch := first | assumption | exact Ne.symm (by assumption) | omega) only [↓ZD, ZU, ne_eq, Zaa, Zab, false_implies, Zac, Zad, Zae, Zaf, Zag, Zah, Zai, Zaj, Zak, Zal, Zam, Zan, Zao, Zap, Zaq, Zar, Zas, Zat, Zau, Zav, Zaw, Zax, Zay, Zaz, Za0, Za1, decide_true, decide_false, beq_self_eq_true, cond_true, cond_false, if_false, if_true, reduceIte, reduceCtorEq, not_true_eq_false, not_false_eq_true, true_and, and_true, forall_const, false_and, and_false, implies_true, Za2, Za3, Za4, Za5]
theorem rabove_pure (F : Base) {ch : List Value} {s : Sch} (h : RepH F ch s) (hz : smallIn s) (low high : Str) : PureV Tryd.prog F 18 #[.agg ch.toArray, .bool false, .string (bs low), .string (bs high)] (.bool (above s low high)) :=
  Leads_pure F h false low high (s.types.flatMap (·.inn)) (fun x y => tyIn_mem) hz.1 (fun x => tyIn_len hz x)
theorem rleadsA_pure (F : Base) {ch : List Value} {s : Sch} (h : RepH F ch s) (hz : smallIn s) (low high : Str) : PureV Tryd.prog F 18 #[.agg ch.toArray, .bool true, .string (bs low), .string (bs high)] (.bool (leadsA s low high)) :=
  Leads_pure F h true low high (s.acts.flatMap (·.inn)) (fun x y => acIn_mem) hz.2 (fun x => acIn_len hz x)
/-- Is a text there twice? -/
def twiceL : List Str → List Str → Bool
  | _, [] => false
  | seen, x :: l => decide (x ∈ seen) || twiceL (seen ++ [x]) l
theorem twice_pure (F : Base) {v : Value} {l : List Str} (h : SlS F v l) : PureV Tryd.prog F 23 #[v] (.bool (twiceL [] l)) := by
  obtain ⟨a, c, rfl, hc, hl, hh⟩ := h
  refine pureV_of_svc mixed Tryd.func23 low23 (Nat.le_of_ble_eq_true rfl) (fun w0 => ?_)
  simp (disch := first | assumption | exact Ne.symm (by assumption) | omega) only [fu23, ↓ZD, ZU, ne_eq, Zaa, Zab, false_implies, Zac, Zad, Zae, Zaf, Zag, Zah, Zai, Zaj, Zak, Zal, Zam, Zan, Zao, Zap, Zaq, Zar, Zas, Zat, Zau, Zav, Zaw, Zax, Zay, Zaz, Za0, Za1, decide_true, decide_false, beq_self_eq_true, cond_true, cond_false, if_false, if_true, reduceIte, reduceCtorEq, not_true_eq_false, not_false_eq_true, true_and, and_true, forall_const, false_and, and_false, implies_true, Za2, Za3, Za4, Za5]
  refine EfL.mkMap fun bm hbm hFm => ?_
  simp (disch := first | assumption | exact Ne.symm (by assumption) | omega) only [hFm, ↓ZD, ZU, ne_eq, Zaa, Zab, false_implies, Zac, Zad, Zae, Zaf, Zag, Zah, Zai, Zaj, Zak, Zal, Zam, Zan, Zao, Zap, Zaq, Zar, Zas, Zat, Zau, Zav, Zaw, Zax, Zay, Zaz, Za0, Za1, decide_true, decide_false, beq_self_eq_true, cond_true, cond_false, if_false, if_true, reduceIte, reduceCtorEq, not_true_eq_false, not_false_eq_true, true_and, and_true, forall_const, false_and, and_false, implies_true, Za2, Za3, Za4, Za5]
  refine LoopL.inv (α := Nat) (fun i => i ≤ l.length ∧ twiceL [] l = twiceL (l.take i) (l.drop i))
    (fun i => [(3, some (.map (some bm))), (7, some (.slice a l.length c)), (8, some (.int .i64 l.length)), (9, some (.int .i64 i))])
    (fun i => [(bm, MapK (l.take i))]) (fun i => l.length - i) 0 ⟨Nat.zero_le _, rfl⟩ (by (simp only [Le_nil, Le_cons]; simp (disch := first | assumption | exact Ne.symm (by assumption) | omega) only [↓ZD, ZU, ne_eq, Zaa, Zab, false_implies, Zac, Zad, Zae, Zaf, Zag, Zah, Zai, Zaj, Zak, Zal, Zam, Zan, Zao, Zap, Zaq, Zar, Zas, Zat, Zau, Zav, Zaw, Zax, Zay, Zaz, Za0, Za1, decide_true, decide_false, beq_self_eq_true, cond_true, cond_false, if_false, if_true, reduceIte, reduceCtorEq, not_true_eq_false, not_false_eq_true, true_and, and_true, forall_const, false_and, and_false, implies_true, Za2, Za3, Za4, Za5]; try trivial)) ⟨by simp (disch := first | assumption | exact Ne.symm (by assumption) | omega) only [↓ZD, ZU, ne_eq, Zaa, Zab, false_implies, Zac, Zad, Zae, Zaf, Zag, Zah, Zai, Zaj, Zak, Zal, Zam, Zan, Zao, Zap, Zaq, Zar, Zas, Zat, Zau, Zav, Zaw, Zax, Zay, Zaz, Za0, Za1, decide_true, decide_false, beq_self_eq_true, cond_true, cond_false, if_false, if_true, reduceIte, reduceCtorEq, not_true_eq_false, not_false_eq_true, true_and, and_true, forall_const, false_and, and_false, implies_true, Za2, Za3, Za4, Za5]; rfl, trivial⟩ ?_
  rintro i ⟨hi, hu⟩
  by_cases hlt : i < l.length
  · have hd : decide ((i : Int) < (l.length : Int)) = true := by simp; omega
    have gx := getS hlt
    obtain ⟨ba, oa, rfl, hla⟩ := (hh.1 i _ gx).ld1
    simp only [Nat.mul_one] at hla
    have hts := take_snoc gx
    have hex : l[i] = l.getD i [] := by simp [hlt]
    rw [List.drop_eq_getElem_cons hlt, twiceL, hex] at hu
    generalize l.getD i [] = x at *
    simp (disch := first | assumption | exact Ne.symm (by assumption) | omega) only [hd, Nat.mul_one, ↓ZD, ZU, ne_eq, Zaa, Zab, false_implies, Zac, Zad, Zae, Zaf, Zag, Zah, Zai, Zaj, Zak, Zal, Zam, Zan, Zao, Zap, Zaq, Zar, Zas, Zat, Zau, Zav, Zaw, Zax, Zay, Zaz, Za0, Za1, decide_true, decide_false, beq_self_eq_true, cond_true, cond_false, if_false, if_true, reduceIte, reduceCtorEq, not_true_eq_false, not_false_eq_true, true_and, and_true, forall_const, false_and, and_false, implies_true, Za2, Za3, Za4, Za5]
    refine conj.of (by omega) ?_
    simp (disch := first | assumption | exact Ne.symm (by assumption) | omega) only [hd, Int.toNat_natCast, Nat.mul_one, ↓hla, ↓ZD, ZU, ne_eq, Zaa, Zab, false_implies, Zac, Zad, Zae, Zaf, Zag, Zah, Zai, Zaj, Zak, Zal, Zam, Zan, Zao, Zap, Zaq, Zar, Zas, Zat, Zau, Zav, Zaw, Zax, Zay, Zaz, Za0, Za1, decide_true, decide_false, beq_self_eq_true, cond_true, cond_false, if_false, if_true, reduceIte, reduceCtorEq, not_true_eq_false, not_false_eq_true, true_and, and_true, forall_const, false_and, and_false, implies_true, Za2, Za3, Za4, Za5]
    refine EfL.getK hFm lk_eq ?_
    simp (disch := first | assumption | exact Ne.symm (by assumption) | omega) only [↓ZD, ZU, ne_eq, Zaa, Zab, false_implies, Zac, Zad, Zae, Zaf, Zag, Zah, Zai, Zaj, Zak, Zal, Zam, Zan, Zao, Zap, Zaq, Zar, Zas, Zat, Zau, Zav, Zaw, Zax, Zay, Zaz, Za0, Za1, decide_true, decide_false, beq_self_eq_true, cond_true, cond_false, if_false, if_true, reduceIte, reduceCtorEq, not_true_eq_false, not_false_eq_true, true_and, and_true, forall_const, false_and, and_false, implies_true, Za2, Za3, Za4, Za5]
    refine ⟨fun hm => ?_, fun hm => ?_⟩
    · rw [hu, hm]; rfl
    · have hm' : x ∉ l.take i := by simpa using hm
      refine EfL.setK hFm lk_eq hm' ?_
      simp (disch := first | assumption | exact Ne.symm (by assumption) | omega) only [↓ZD, ZU, ne_eq, Zaa, Zab, false_implies, Zac, Zad, Zae, Zaf, Zag, Zah, Zai, Zaj, Zak, Zal, Zam, Zan, Zao, Zap, Zaq, Zar, Zas, Zat, Zau, Zav, Zaw, Zax, Zay, Zaz, Za0, Za1, decide_true, decide_false, beq_self_eq_true, cond_true, cond_false, if_false, if_true, reduceIte, reduceCtorEq, not_true_eq_false, not_false_eq_true, true_and, and_true, forall_const, false_and, and_false, implies_true, Za2, Za3, Za4, Za5]
      refine invK.on (i + 1) ⟨by omega, by rw [hu, hm, hts]; rfl⟩ (by omega) (by (simp only [Le_nil, Le_cons]; simp (disch := first | assumption | exact Ne.symm (by assumption) | omega) only [↓ZD, ZU, ne_eq, Zaa, Zab, false_implies, Zac, Zad, Zae, Zaf, Zag, Zah, Zai, Zaj, Zak, Zal, Zam, Zan, Zao, Zap, Zaq, Zar, Zas, Zat, Zau, Zav, Zaw, Zax, Zay, Zaz, Za0, Za1, decide_true, decide_false, beq_self_eq_true, cond_true, cond_false, if_false, if_true, reduceIte, reduceCtorEq, not_true_eq_false, not_false_eq_true, true_and, and_true, forall_const, false_and, and_false, implies_true, Za2, Za3, Za4, Za5]; try trivial)) ⟨by simp (disch := first | assumption | exact Ne.symm (by assumption) | omega) only [hts, ↓ZD, ZU, ne_eq, Zaa, Zab, false_implies, Zac, Zad, Zae, Zaf, Zag, Zah, Zai, Zaj, Zak, Zal, Zam, Zan, Zao, Zap, Zaq, Zar, Zas, Zat, Zau, Zav, Zaw, Zax, Zay, Zaz, Za0, Za1, decide_true, decide_false, beq_self_eq_true, cond_true, cond_false, if_false, if_true, reduceIte, reduceCtorEq, not_true_eq_false, not_false_eq_true, true_and, and_true, forall_const, false_and, and_false, implies_true, Za2, Za3, Za4, Za5], trivial⟩
  · have hd : decide ((i : Int) < (l.length : Int)) = false := by simp; omega
    obtain rfl : i = l.length := by omega
    rw [List.drop_length] at hu
    simp (disch := first | assumption | exact Ne.symm (by assumption) | omega) only [hd, ↓ZD, ZU, ne_eq, Zaa, Zab, false_implies, Zac, Zad, Zae, Zaf, Zag, Zah, Zai, Zaj, Zak, Zal, Zam, Zan, Zao, Zap, Zaq, Zar, Zas, Zat, Zau, Zav, Zaw, Zax, Zay, Zaz, Za0, Za1, decide_true, decide_false, beq_self_eq_true, cond_true, cond_false, if_false, if_true, reduceIte, reduceCtorEq, not_true_eq_false, not_false_eq_true, true_and, and_true, forall_const, false_and, and_false, implies_true, Za2, Za3, Za4, Za5]
    rw [hu]; rfl
end Go.Proofs.YtnnieekbklmgdaaDoor
