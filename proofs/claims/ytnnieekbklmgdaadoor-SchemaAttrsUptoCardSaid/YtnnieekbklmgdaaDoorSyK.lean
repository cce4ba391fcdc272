/- Layer 12: which schemas may be, of the program. -/
import Derived.Test.YtnnieekbklmgdaaDoorSyJ
namespace Go.Proofs.YtnnieekbklmgdaaDoor
open Go Go.Eng
open Int renaming reduceEq → Zaa, reduceToNat → Zaw, reduceLE → Zax, reduceLT → Zay, reduceAdd → Zaz, reduceSub → Za0, reduceNeg → Za1, reducePow → Za3, reduceNegSucc → Za5
open UInt8 renaming reduceOfNat → Zab
open Go.Eng renaming subG → Zac, lit → Zad, isPar → Zae, numb → Zaf, Wf → Zag, resV → Zah, oneCell → Zai, isB → Zaj, asB → Zak
open List renaming mapM_cons → Zal, mapM_nil → Zam
open Go.Value renaming cells → Zan
open Nat renaming reduceAdd → Zao, reduceMul → Zap, reduceMod → Zaq, reduceDiv → Zar, reduceEqDiff → Zas, reduceBEq → Zat, reduceLeDiff → Zau, reduceSub → Zav, reducePow → Za2, reduceLT → Za4
set_option linter.unusedSimpArgs false
set_option linter.unusedVariables false
set_option maxRecDepth 20000

/-! ### Lists of own blocks -/
def Okh (H : Hp) : Prop := ∀ e ∈ H, lk H e.1 = some e.2
theorem Okh.nil : Okh [] := fun e he => by cases he
theorem Okh.app {A B : Hp} (ha : Okh A) (hb : Okh B) (hd : ∀ e' ∈ A, ∀ e ∈ B, e.1 ≠ e'.1) : Okh (A ++ B) := by
  intro e he
  rw [lk_append]
  rcases List.mem_append.1 he with he | he
  · rw [ha e he]
  · rw [lk_none fun e' he' => (hd e' he' e he).symm, hb e he]
theorem Okh.cons {A : Hp} {b : Nat} {o : Obj} (ha : Okh A) (hd : ∀ e ∈ A, e.1 ≠ b) : Okh ((b, o) :: A) :=
  Okh.app (A := [(b, o)]) (fun e he => by obtain rfl := List.mem_singleton.1 he; simp [lk]) ha (fun e' he' e he => by obtain rfl := List.mem_singleton.1 he'; exact hd e he)
theorem HLe.of {A H : Hp} (h : ∀ e ∈ A, lk H e.1 = some e.2) : HLe A H := by
  induction A with
  | nil => trivial
  | cons x r ih => exact ⟨h x List.mem_cons_self, ih fun e he => h e (List.mem_cons_of_mem _ he)⟩
theorem Okh.lk {A B : Hp} (hB : Okh B) (hd : ∀ e' ∈ A, ∀ e ∈ B, e.1 ≠ e'.1) : ∀ e ∈ B, Eng.lk (A ++ B) e.1 = some e.2 := fun e he => by
  rw [lk_append, lk_none fun e' he' => (hd e' he' e he).symm, hB e he]
theorem rep_set {G : Base} {b : Nat} {cs : List Value} {u : Ty} (hb : G b = some (.cells cs.toArray 25 (0, 0))) (hr : RepT G cs u) :
    RepT G [.int .i64 7, .string (bs []), .slice (some ⟨b, 0, none⟩) 1 1, .slice none 0 0] (.mk 7 [] [u] []) := by
  have hcl : Cl G (some ⟨b, 0, none⟩) 4 0 cs := by
    obtain ⟨_, _, _, _, _, _, _, _, rfl⟩ := hr.form
    exact ⟨b, 0, _, _, _, rfl, hb, by simp, by simp⟩
  refine RepT.mk 7 [] (some ⟨b, 0, none⟩) 1 none 0 [u] [] (fun _ => cs) (fun _ => []) (by omega) (by simp) (by simp) (by simp) (by simp) (by simp) ?_ ?_ (by simp) (by simp)
  all_goals
    intro i t h
    have h0 : i = 0 := by
      rcases i with _ | i
      · rfl
      · simp at h
    subst h0
    simp only [List.getElem?_cons_zero, Option.some.injEq] at h
    subst h
    first | exact hcl | exact hr
theorem okh_own {F : Base} {n T : Nat} {l : List Value} {len : Nat} {v : Value} {Ho : Hp} (h : OwnS F n T l len v Ho) : Okh Ho := by
  rcases h.out with ⟨-, -, -, rfl⟩ | ⟨b, cap, sp, -, rfl, -⟩
  · exact Okh.nil
  · exact Okh.nil.cons (fun e he => by cases he)
theorem rdObj_app {F : Base} {A B : Hp} {b : Nat} {o : Obj} (hd : ∀ e' ∈ A, ∀ e ∈ B, e.1 ≠ e'.1) (h : rdObj F B b = some o) : rdObj F (A ++ B) b = some o := by
  unfold rdObj at *
  cases hF : F b with
  | some o' => rw [hF] at h; exact h
  | none =>
    rw [hF] at h
    simp only at h ⊢
    rw [lk_append, lk_none fun e' he' => (hd e' he' _ (lk_mem h)).symm]
    exact h
theorem stp_callV_guard {P : Program} {X : List Nat} {F : Base} {w0 : World} {N f l : Nat} {x : Eng.X} {args : List Eng.X} {d : Option Nat} {U : Fr} {C : Cf} {H : Hp} {next : Fr → Cf → Hp → Prop} {vs : List Value} (hc : callable P f = true) (hx : rd U C (chain C (some l)) x = some (.func (.func f) #[] #[]))
    (hr : rds U C (chain C (some l)) args = some vs)
    (h1 : Wf U C (chain C (some l)) (chain C (some l)) → @CallN P X F w0 f vs.toArray H ⟨fun v H' => put d (chain C (some l)) v U C H' next⟩) (h2 : NW U C (chain C (some l)) → skp d (chain C (some l)) U C (fun U C => next U C H)) :
    stp P X F w0 N ⟨d, .callV x args, some l, .g⟩ U C H next := by
  unfold stp
  simp only [hx, hr]
  refine ⟨fun h => ⟨f, #[], #[], rfl, hc, ?_⟩, h2⟩
  have e : (#[] ++ vs.toArray ++ #[] : Array Value) = vs.toArray := by simp
  rw [e]
  exact h1 h
theorem CallNF.one {P : Program} {X : List Nat} {F : Base} {w0 : World} {f : Nat} {vs : List Value} {H : Hp} {K : Value → Hp → Prop} (hc : callable P f = true) (h : @CallN P X F w0 f vs.toArray H ⟨K⟩) : @CallNF P X F w0 (.func (.func f) #[] #[]) vs H ⟨K⟩ := by
  refine ⟨f, #[], #[], rfl, hc, ?_⟩
  have e : (#[] ++ vs.toArray ++ #[] : Array Value) = vs.toArray := by simp
  rw [e]
  exact h
theorem lk_ext {A B T : Hp} (h : ∀ e ∈ T, lk A e.1 = some e.2) : ∀ e ∈ T, lk (A ++ B) e.1 = some e.2 := fun e he => by rw [lk_append, h e he]
theorem rd_last {F : Base} {A : Hp} {b : Nat} {o : Obj} (hF : F b = none) (hd : ∀ e' ∈ A, ∀ e ∈ [(b, o)], e.1 ≠ e'.1) : rdObj F (A ++ [(b, o)]) b = some o :=
  rdObj_app hd (by unfold rdObj; rw [hF]; simp [lk])
theorem schema_check (F : Base) (hg : HasM F) {ch : List Value} {s : Sch} (hs : RepH F ch s) (hz : OkS s) : PureV Tryd.prog F 10 #[.agg ch.toArray] (.int .i64 (chkS s)) := by
  have hs0 := hs
  obtain ⟨hsm, hT, hA, hnt, hna⟩ := hz
  have hgr := groups_does F hs
  have hlA := fun b (H : Hp) (hb : rdObj F H b = some (.cells ch.toArray 25 (0, 0))) x => leadsA_pure (rdObj F H) (hs0.mono le_up) hsm x x b hb
  cases hs with
  | mk a1 a2 c1 c2 ts xs g1 g2 hc1 hc2 hl1 hl2 h1 h2 =>
    simp only at hT hA hnt hna
    refine pureV_of_svc mixed Tryd.func10 low10 (Nat.le_of_ble_eq_true rfl) (fun w0 => ?_)
    simp (disch := first | assumption | exact Ne.symm (by assumption) | omega) only [fu10, ↓ZD, ZU, ne_eq, Zaa, Zab, false_implies, Zac, Zad, Zae, Zaf, Zag, Zah, Zai, Zaj, Zak, Zal, Zam, Zan, Zao, Zap, Zaq, Zar, Zas, Zat, Zau, Zav, Zaw, Zax, Zay, Zaz, Za0, Za1, decide_true, decide_false, beq_self_eq_true, cond_true, cond_false, if_false, if_true, reduceIte, reduceCtorEq, not_true_eq_false, not_false_eq_true, true_and, and_true, forall_const, false_and, and_false, implies_true, Za2, Za3, Za4, Za5]
    refine NewB.of fun b1 hb1 hF1 => ?_
    simp (disch := first | assumption | exact Ne.symm (by assumption) | omega) only [hF1, ↓ZD, ZU, ne_eq, Zaa, Zab, false_implies, Zac, Zad, Zae, Zaf, Zag, Zah, Zai, Zaj, Zak, Zal, Zam, Zan, Zao, Zap, Zaq, Zar, Zas, Zat, Zau, Zav, Zaw, Zax, Zay, Zaz, Za0, Za1, decide_true, decide_false, beq_self_eq_true, cond_true, cond_false, if_false, if_true, reduceIte, reduceCtorEq, not_true_eq_false, not_false_eq_true, true_and, and_true, forall_const, false_and, and_false, implies_true, Za2, Za3, Za4, Za5]
    refine LoopL.inv (α := Nat × Value × Hp) (fun z => z.1 ≤ ts.length ∧ OwnS F 1 9 (strs ((ts.take z.1).map (·.name))) z.1 z.2.1 z.2.2 ∧ ∀ e ∈ z.2.2, e.1 ≠ b1)
      (fun z => [(1, some (.pointer (some ⟨b1, 0, none⟩))), (3, some z.2.1), (4, some (.slice none 0 0)), (17, some (.slice a1 ts.length c1)), (18, some (.int .i64 ts.length)), (19, some (.int .i64 z.1))])
      (fun z => (b1, .cells #[.slice a1 ts.length c1, .slice a2 xs.length c2] 25 (0, 0)) :: z.2.2) (fun z => ts.length - z.1) (0, .slice none 0 0, []) ⟨Nat.zero_le _, .nil, fun e he => by cases he⟩ (by (simp only [Le_nil, Le_cons]; simp (disch := first | assumption | exact Ne.symm (by assumption) | omega) only [↓ZD, ZU, ne_eq, Zaa, Zab, false_implies, Zac, Zad, Zae, Zaf, Zag, Zah, Zai, Zaj, Zak, Zal, Zam, Zan, Zao, Zap, Zaq, Zar, Zas, Zat, Zau, Zav, Zaw, Zax, Zay, Zaz, Za0, Za1, decide_true, decide_false, beq_self_eq_true, cond_true, cond_false, if_false, if_true, reduceIte, reduceCtorEq, not_true_eq_false, not_false_eq_true, true_and, and_true, forall_const, false_and, and_false, implies_true, Za2, Za3, Za4, Za5]; try trivial)) ⟨by simp (disch := first | assumption | exact Ne.symm (by assumption) | omega) only [↓ZD, ZU, ne_eq, Zaa, Zab, false_implies, Zac, Zad, Zae, Zaf, Zag, Zah, Zai, Zaj, Zak, Zal, Zam, Zan, Zao, Zap, Zaq, Zar, Zas, Zat, Zau, Zav, Zaw, Zax, Zay, Zaz, Za0, Za1, decide_true, decide_false, beq_self_eq_true, cond_true, cond_false, if_false, if_true, reduceIte, reduceCtorEq, not_true_eq_false, not_false_eq_true, true_and, and_true, forall_const, false_and, and_false, implies_true, Za2, Za3, Za4, Za5], trivial⟩ ?_
    rintro ⟨i, v, Ho⟩ ⟨hi, ho, hob⟩
    simp only at hi ho hob
    by_cases hlt : i < ts.length
    · have hd : decide ((i : Int) < (ts.length : Int)) = true := by simp; omega
      obtain ⟨hcl, e1, e2, hform, hnl, ⟨_, _, rfl, -⟩, ⟨_, _, _, rfl, -⟩⟩ := h1 i _ (getE hlt)
      rw [hform] at hcl
      obtain ⟨ba, oa, rfl, hla⟩ := hcl.ldn
      have hts := take_snoc (getE hlt)
      have hup : ∀ b o, (∀ e ∈ Ho, e.1 ≠ b) → upd Ho b o = Ho := fun b o h => upd_new h
      simp (disch := first | assumption | exact Ne.symm (by assumption) | omega) only [hF1, hd, ↓ZD, ZU, ne_eq, Zaa, Zab, false_implies, Zac, Zad, Zae, Zaf, Zag, Zah, Zai, Zaj, Zak, Zal, Zam, Zan, Zao, Zap, Zaq, Zar, Zas, Zat, Zau, Zav, Zaw, Zax, Zay, Zaz, Za0, Za1, decide_true, decide_false, beq_self_eq_true, cond_true, cond_false, if_false, if_true, reduceIte, reduceCtorEq, not_true_eq_false, not_false_eq_true, true_and, and_true, forall_const, false_and, and_false, implies_true, Za2, Za3, Za4, Za5]
      refine conj.of (by omega) ?_
      simp (disch := first | assumption | exact Ne.symm (by assumption) | omega) only [hF1, hd, Int.toNat_natCast, ↓hla, ↓ZD, ZU, ne_eq, Zaa, Zab, false_implies, Zac, Zad, Zae, Zaf, Zag, Zah, Zai, Zaj, Zak, Zal, Zam, Zan, Zao, Zap, Zaq, Zar, Zas, Zat, Zau, Zav, Zaw, Zax, Zay, Zaz, Za0, Za1, decide_true, decide_false, beq_self_eq_true, cond_true, cond_false, if_false, if_true, reduceIte, reduceCtorEq, not_true_eq_false, not_false_eq_true, true_and, and_true, forall_const, false_and, and_false, implies_true, Za2, Za3, Za4, Za5]
      refine NewB.of fun b2 hb2 hF2 => ?_
      simp only [List.forall_mem_cons] at hb2
      obtain ⟨_, hb2⟩ := hb2
      have hup2 : ∀ o, upd Ho b2 o = Ho := fun o => upd_new hb2
      simp (disch := first | assumption | exact Ne.symm (by assumption) | omega) only [hF1, hF2, hup2, ↓ZD, ZU, ne_eq, Zaa, Zab, false_implies, Zac, Zad, Zae, Zaf, Zag, Zah, Zai, Zaj, Zak, Zal, Zam, Zan, Zao, Zap, Zaq, Zar, Zas, Zat, Zau, Zav, Zaw, Zax, Zay, Zaz, Za0, Za1, decide_true, decide_false, beq_self_eq_true, cond_true, cond_false, if_false, if_true, reduceIte, reduceCtorEq, not_true_eq_false, not_false_eq_true, true_and, and_true, forall_const, false_and, and_false, implies_true, Za2, Za3, Za4, Za5]
      refine NewB.of fun b3 hb3 hF3 => ?_
      simp only [List.forall_mem_cons] at hb3
      obtain ⟨_, _, hb3⟩ := hb3
      simp (disch := first | assumption | exact Ne.symm (by assumption) | omega) only [hF1, hF2, hF3, ↓ZD, ZU, ne_eq, Zaa, Zab, false_implies, Zac, Zad, Zae, Zaf, Zag, Zah, Zai, Zaj, Zak, Zal, Zam, Zan, Zao, Zap, Zaq, Zar, Zas, Zat, Zau, Zav, Zaw, Zax, Zay, Zaz, Za0, Za1, decide_true, decide_false, beq_self_eq_true, cond_true, cond_false, if_false, if_true, reduceIte, reduceCtorEq, not_true_eq_false, not_false_eq_true, true_and, and_true, forall_const, false_and, and_false, implies_true, Za2, Za3, Za4, Za5]
      refine EfL.grow (Hr := [(b1, .cells #[.slice (some ⟨ba, oa, none⟩) ts.length c1, .slice a2 xs.length c2] 25 (0, 0))]) (m := 1) (nw := [.string (bs (ts.getD i nilE).name)]) ho (ho.lk [_, _, _] (by simp only [List.forall_mem_cons, List.not_mem_nil, false_implies, implies_true, and_true]; exact ⟨hb3, hb2, hob⟩)) (by simp) (by simp only [List.forall_mem_cons]; exact ⟨hob, fun e he => by cases he⟩) ?_ rfl (by simp [oneCell]) (by simp) (by omega) ?_
      · simp (disch := first | assumption | exact Ne.symm (by assumption) | omega) only [hF3, ↓ZD, ZU, ne_eq, Zaa, Zab, false_implies, Zac, Zad, Zae, Zaf, Zag, Zah, Zai, Zaj, Zak, Zal, Zam, Zan, Zao, Zap, Zaq, Zar, Zas, Zat, Zau, Zav, Zaw, Zax, Zay, Zaz, Za0, Za1, decide_true, decide_false, beq_self_eq_true, cond_true, cond_false, if_false, if_true, reduceIte, reduceCtorEq, not_true_eq_false, not_false_eq_true, true_and, and_true, forall_const, false_and, and_false, implies_true, Za2, Za3, Za4, Za5]
      · intro b4 cap4 sp4 hs4 hc4 hm4 hF4 hne4
        simp only [List.forall_mem_cons] at hne4
        simp (disch := first | assumption | exact Ne.symm (by assumption) | omega) only [hF1, ↓ZD, ZU, ne_eq, Zaa, Zab, false_implies, Zac, Zad, Zae, Zaf, Zag, Zah, Zai, Zaj, Zak, Zal, Zam, Zan, Zao, Zap, Zaq, Zar, Zas, Zat, Zau, Zav, Zaw, Zax, Zay, Zaz, Za0, Za1, decide_true, decide_false, beq_self_eq_true, cond_true, cond_false, if_false, if_true, reduceIte, reduceCtorEq, not_true_eq_false, not_false_eq_true, true_and, and_true, forall_const, false_and, and_false, implies_true, Za2, Za3, Za4, Za5]
        refine invK.on (i + 1, .slice (some ⟨b4, 0, none⟩) (i + 1) cap4, [(b4, .cells (strs ((ts.take i).map (·.name)) ++ ([.string (bs (ts.getD i nilE).name)] : List Value) ++ sp4).toArray 9 (0, 0))]) ⟨by simp only; omega, OwnS.mk sp4 hF4 (by rw [hts]; simp [strs]) rfl (by rw [hts]; simp [strs]; omega) (by simpa using hs4) hc4 hm4, ?_⟩ (by simp only; omega) (by (simp only [Le_nil, Le_cons]; simp (disch := first | assumption | exact Ne.symm (by assumption) | omega) only [↓ZD, ZU, ne_eq, Zaa, Zab, false_implies, Zac, Zad, Zae, Zaf, Zag, Zah, Zai, Zaj, Zak, Zal, Zam, Zan, Zao, Zap, Zaq, Zar, Zas, Zat, Zau, Zav, Zaw, Zax, Zay, Zaz, Za0, Za1, decide_true, decide_false, beq_self_eq_true, cond_true, cond_false, if_false, if_true, reduceIte, reduceCtorEq, not_true_eq_false, not_false_eq_true, true_and, and_true, forall_const, false_and, and_false, implies_true, Za2, Za3, Za4, Za5]; try trivial)) ⟨by simp (disch := first | assumption | exact Ne.symm (by assumption) | omega) only [↓ZD, ZU, ne_eq, Zaa, Zab, false_implies, Zac, Zad, Zae, Zaf, Zag, Zah, Zai, Zaj, Zak, Zal, Zam, Zan, Zao, Zap, Zaq, Zar, Zas, Zat, Zau, Zav, Zaw, Zax, Zay, Zaz, Za0, Za1, decide_true, decide_false, beq_self_eq_true, cond_true, cond_false, if_false, if_true, reduceIte, reduceCtorEq, not_true_eq_false, not_false_eq_true, true_and, and_true, forall_const, false_and, and_false, implies_true, Za2, Za3, Za4, Za5], by simp (disch := first | assumption | exact Ne.symm (by assumption) | omega) only [↓ZD, ZU, ne_eq, Zaa, Zab, false_implies, Zac, Zad, Zae, Zaf, Zag, Zah, Zai, Zaj, Zak, Zal, Zam, Zan, Zao, Zap, Zaq, Zar, Zas, Zat, Zau, Zav, Zaw, Zax, Zay, Zaz, Za0, Za1, decide_true, decide_false, beq_self_eq_true, cond_true, cond_false, if_false, if_true, reduceIte, reduceCtorEq, not_true_eq_false, not_false_eq_true, true_and, and_true, forall_const, false_and, and_false, implies_true, Za2, Za3, Za4, Za5], trivial⟩
        intro e he
        simp only [List.mem_singleton] at he
        subst he
        exact fun h => hne4.1 h.symm
    have hd : decide ((i : Int) < (ts.length : Int)) = false := by simp; omega
    obtain rfl : i = ts.length := by omega
    rw [List.take_length] at ho
    simp (disch := first | assumption | exact Ne.symm (by assumption) | omega) only [hF1, hd, ↓ZD, ZU, ne_eq, Zaa, Zab, false_implies, Zac, Zad, Zae, Zaf, Zag, Zah, Zai, Zaj, Zak, Zal, Zam, Zan, Zao, Zap, Zaq, Zar, Zas, Zat, Zau, Zav, Zaw, Zax, Zay, Zaz, Za0, Za1, decide_true, decide_false, beq_self_eq_true, cond_true, cond_false, if_false, if_true, reduceIte, reduceCtorEq, not_true_eq_false, not_false_eq_true, true_and, and_true, forall_const, false_and, and_false, implies_true, Za2, Za3, Za4, Za5]
    clear hd hlt hi
    generalize v = vn at *
    generalize Ho = Hn at *
    have hokn := okh_own ho
    refine LoopL.inv (α := Nat × Value × Hp) (fun z => z.1 ≤ xs.length ∧ OwnS F 1 9 (strs ((xs.take z.1).map (·.id))) z.1 z.2.1 z.2.2 ∧ (∀ e ∈ z.2.2, e.1 ≠ b1) ∧ ∀ e' ∈ Hn, ∀ e ∈ z.2.2, e.1 ≠ e'.1)
      (fun z => [(1, some (.pointer (some ⟨b1, 0, none⟩))), (3, some vn), (4, some z.2.1), (30, some (.slice a2 xs.length c2)), (31, some (.int .i64 xs.length)), (32, some (.int .i64 z.1))])
      (fun z => (b1, .cells #[.slice a1 ts.length c1, .slice a2 xs.length c2] 25 (0, 0)) :: (Hn ++ z.2.2)) (fun z => xs.length - z.1) (0, .slice none 0 0, []) ⟨Nat.zero_le _, .nil, fun e he => (by cases he), fun e' he' e he => (by cases he)⟩ (by (simp only [Le_nil, Le_cons]; simp (disch := first | assumption | exact Ne.symm (by assumption) | omega) only [↓ZD, ZU, ne_eq, Zaa, Zab, false_implies, Zac, Zad, Zae, Zaf, Zag, Zah, Zai, Zaj, Zak, Zal, Zam, Zan, Zao, Zap, Zaq, Zar, Zas, Zat, Zau, Zav, Zaw, Zax, Zay, Zaz, Za0, Za1, decide_true, decide_false, beq_self_eq_true, cond_true, cond_false, if_false, if_true, reduceIte, reduceCtorEq, not_true_eq_false, not_false_eq_true, true_and, and_true, forall_const, false_and, and_false, implies_true, Za2, Za3, Za4, Za5]; try trivial)) ⟨by simp (disch := first | assumption | exact Ne.symm (by assumption) | omega) only [↓ZD, ZU, ne_eq, Zaa, Zab, false_implies, Zac, Zad, Zae, Zaf, Zag, Zah, Zai, Zaj, Zak, Zal, Zam, Zan, Zao, Zap, Zaq, Zar, Zas, Zat, Zau, Zav, Zaw, Zax, Zay, Zaz, Za0, Za1, decide_true, decide_false, beq_self_eq_true, cond_true, cond_false, if_false, if_true, reduceIte, reduceCtorEq, not_true_eq_false, not_false_eq_true, true_and, and_true, forall_const, false_and, and_false, implies_true, Za2, Za3, Za4, Za5], by simp only [List.append_nil]; exact HLe.of (Okh.lk (A := [_]) hokn (by simp only [List.forall_mem_cons]; exact ⟨hob, fun e he => by cases he⟩))⟩ ?_
    rintro ⟨i, v, Hq⟩ ⟨hi, hq, hqb, had⟩
    simp only at hi hq hqb had
    have hok : Okh (Hn ++ Hq) := Okh.app hokn (okh_own hq) had
    have hob2 : ∀ e ∈ Hn ++ Hq, e.1 ≠ b1 := fun e he => by
      rcases List.mem_append.1 he with h | h
      · exact hob e h
      · exact hqb e h
    by_cases hlt : i < xs.length
    · have hd : decide ((i : Int) < (xs.length : Int)) = true := by simp; omega
      obtain ⟨hcl, e1, e2, e3, e4, hform, hnl, ⟨_, _, rfl, -⟩, ⟨_, _, rfl, -⟩, ⟨_, _, rfl, -⟩, ⟨_, _, _, rfl, -⟩⟩ := h2 i _ (getC hlt)
      rw [hform] at hcl
      obtain ⟨ba, oa, rfl, hla⟩ := hcl.ldn
      have hts := take_snoc (getC hlt)
      simp (disch := first | assumption | exact Ne.symm (by assumption) | omega) only [hF1, hd, ↓ZD, ZU, ne_eq, Zaa, Zab, false_implies, Zac, Zad, Zae, Zaf, Zag, Zah, Zai, Zaj, Zak, Zal, Zam, Zan, Zao, Zap, Zaq, Zar, Zas, Zat, Zau, Zav, Zaw, Zax, Zay, Zaz, Za0, Za1, decide_true, decide_false, beq_self_eq_true, cond_true, cond_false, if_false, if_true, reduceIte, reduceCtorEq, not_true_eq_false, not_false_eq_true, true_and, and_true, forall_const, false_and, and_false, implies_true, Za2, Za3, Za4, Za5]
      refine conj.of (by omega) ?_
      simp (disch := first | assumption | exact Ne.symm (by assumption) | omega) only [hF1, hd, Int.toNat_natCast, ↓hla, ↓ZD, ZU, ne_eq, Zaa, Zab, false_implies, Zac, Zad, Zae, Zaf, Zag, Zah, Zai, Zaj, Zak, Zal, Zam, Zan, Zao, Zap, Zaq, Zar, Zas, Zat, Zau, Zav, Zaw, Zax, Zay, Zaz, Za0, Za1, decide_true, decide_false, beq_self_eq_true, cond_true, cond_false, if_false, if_true, reduceIte, reduceCtorEq, not_true_eq_false, not_false_eq_true, true_and, and_true, forall_const, false_and, and_false, implies_true, Za2, Za3, Za4, Za5]
      refine NewB.of fun b2 hb2 hF2 => ?_
      simp only [List.forall_mem_cons] at hb2
      obtain ⟨_, hb2⟩ := hb2
      have hup2 : ∀ o, upd (Hn ++ Hq) b2 o = Hn ++ Hq := fun o => upd_new hb2
      simp (disch := first | assumption | exact Ne.symm (by assumption) | omega) only [hF1, hF2, hup2, ↓ZD, ZU, ne_eq, Zaa, Zab, false_implies, Zac, Zad, Zae, Zaf, Zag, Zah, Zai, Zaj, Zak, Zal, Zam, Zan, Zao, Zap, Zaq, Zar, Zas, Zat, Zau, Zav, Zaw, Zax, Zay, Zaz, Za0, Za1, decide_true, decide_false, beq_self_eq_true, cond_true, cond_false, if_false, if_true, reduceIte, reduceCtorEq, not_true_eq_false, not_false_eq_true, true_and, and_true, forall_const, false_and, and_false, implies_true, Za2, Za3, Za4, Za5]
      refine NewB.of fun b3 hb3 hF3 => ?_
      simp only [List.forall_mem_cons] at hb3
      obtain ⟨_, _, hb3⟩ := hb3
      simp (disch := first | assumption | exact Ne.symm (by assumption) | omega) only [hF1, hF2, hF3, ↓ZD, ZU, ne_eq, Zaa, Zab, false_implies, Zac, Zad, Zae, Zaf, Zag, Zah, Zai, Zaj, Zak, Zal, Zam, Zan, Zao, Zap, Zaq, Zar, Zas, Zat, Zau, Zav, Zaw, Zax, Zay, Zaz, Za0, Za1, decide_true, decide_false, beq_self_eq_true, cond_true, cond_false, if_false, if_true, reduceIte, reduceCtorEq, not_true_eq_false, not_false_eq_true, true_and, and_true, forall_const, false_and, and_false, implies_true, Za2, Za3, Za4, Za5]
      refine EfL.grow (Hr := (b1, .cells #[.slice a1 ts.length c1, .slice (some ⟨ba, oa, none⟩) xs.length c2] 25 (0, 0)) :: Hn) (m := 1) (nw := [.string (bs (xs.getD i nilC).id)]) hq ?_ ?_ ?_ ?_ rfl (by simp [oneCell]) (by simp) (by omega) ?_
      · intro e he
        refine (Okh.lk (A := [_, _, _]) hok ?_) e (List.mem_append_right _ he)
        simp only [List.forall_mem_cons]
        exact ⟨hb3, hb2, hob2, fun e he => by cases he⟩
      · intro e he
        simp only [List.mem_cons, List.mem_append] at he ⊢
        rcases he with h | h <;> simp [h]
      · simp only [List.forall_mem_cons]
        exact ⟨hqb, had⟩
      · simp (disch := first | assumption | exact Ne.symm (by assumption) | omega) only [hF3, ↓ZD, ZU, ne_eq, Zaa, Zab, false_implies, Zac, Zad, Zae, Zaf, Zag, Zah, Zai, Zaj, Zak, Zal, Zam, Zan, Zao, Zap, Zaq, Zar, Zas, Zat, Zau, Zav, Zaw, Zax, Zay, Zaz, Za0, Za1, decide_true, decide_false, beq_self_eq_true, cond_true, cond_false, if_false, if_true, reduceIte, reduceCtorEq, not_true_eq_false, not_false_eq_true, true_and, and_true, forall_const, false_and, and_false, implies_true, Za2, Za3, Za4, Za5]
      · intro b4 cap4 sp4 hs4 hc4 hm4 hF4 hne4
        simp only [List.forall_mem_cons] at hne4
        simp (disch := first | assumption | exact Ne.symm (by assumption) | omega) only [hF1, ↓ZD, ZU, ne_eq, Zaa, Zab, false_implies, Zac, Zad, Zae, Zaf, Zag, Zah, Zai, Zaj, Zak, Zal, Zam, Zan, Zao, Zap, Zaq, Zar, Zas, Zat, Zau, Zav, Zaw, Zax, Zay, Zaz, Za0, Za1, decide_true, decide_false, beq_self_eq_true, cond_true, cond_false, if_false, if_true, reduceIte, reduceCtorEq, not_true_eq_false, not_false_eq_true, true_and, and_true, forall_const, false_and, and_false, implies_true, Za2, Za3, Za4, Za5]
        refine invK.on (i + 1, .slice (some ⟨b4, 0, none⟩) (i + 1) cap4, [(b4, .cells (strs ((xs.take i).map (·.id)) ++ ([.string (bs (xs.getD i nilC).id)] : List Value) ++ sp4).toArray 9 (0, 0))]) ⟨by simp only; omega, OwnS.mk sp4 hF4 (by rw [hts]; simp [strs]) rfl (by rw [hts]; simp [strs]; omega) (by simpa using hs4) hc4 hm4, ?_, ?_⟩ (by simp only; omega) (by (simp only [Le_nil, Le_cons]; simp (disch := first | assumption | exact Ne.symm (by assumption) | omega) only [↓ZD, ZU, ne_eq, Zaa, Zab, false_implies, Zac, Zad, Zae, Zaf, Zag, Zah, Zai, Zaj, Zak, Zal, Zam, Zan, Zao, Zap, Zaq, Zar, Zas, Zat, Zau, Zav, Zaw, Zax, Zay, Zaz, Za0, Za1, decide_true, decide_false, beq_self_eq_true, cond_true, cond_false, if_false, if_true, reduceIte, reduceCtorEq, not_true_eq_false, not_false_eq_true, true_and, and_true, forall_const, false_and, and_false, implies_true, Za2, Za3, Za4, Za5]; try trivial)) ⟨by simp (disch := first | assumption | exact Ne.symm (by assumption) | omega) only [↓ZD, ZU, ne_eq, Zaa, Zab, false_implies, Zac, Zad, Zae, Zaf, Zag, Zah, Zai, Zaj, Zak, Zal, Zam, Zan, Zao, Zap, Zaq, Zar, Zas, Zat, Zau, Zav, Zaw, Zax, Zay, Zaz, Za0, Za1, decide_true, decide_false, beq_self_eq_true, cond_true, cond_false, if_false, if_true, reduceIte, reduceCtorEq, not_true_eq_false, not_false_eq_true, true_and, and_true, forall_const, false_and, and_false, implies_true, Za2, Za3, Za4, Za5], HLe.of ?_⟩
        · intro e he
          simp only [List.mem_singleton] at he
          subst he
          exact fun h => hne4.1 h.symm
        · intro e' he' e he
          simp only [List.mem_singleton] at he
          subst he
          exact fun h => hne4.2 e' he' h.symm
        · intro e he
          rcases List.mem_append.1 he with h | h
          · exact Okh.lk (A := [_, _]) hokn (by simp only [List.forall_mem_cons]; exact ⟨hne4.2, hob, fun e he => by cases he⟩) e h
          · simp only [List.mem_singleton] at h
            subst h
            exact lk_eq
    have hd : decide ((i : Int) < (xs.length : Int)) = false := by simp; omega
    obtain rfl : i = xs.length := by omega
    rw [List.take_length] at hq
    simp (disch := first | assumption | exact Ne.symm (by assumption) | omega) only [hF1, hd, ↓ZD, ZU, ne_eq, Zaa, Zab, false_implies, Zac, Zad, Zae, Zaf, Zag, Zah, Zai, Zaj, Zak, Zal, Zam, Zan, Zao, Zap, Zaq, Zar, Zas, Zat, Zau, Zav, Zaw, Zax, Zay, Zaz, Za0, Za1, decide_true, decide_false, beq_self_eq_true, cond_true, cond_false, if_false, if_true, reduceIte, reduceCtorEq, not_true_eq_false, not_false_eq_true, true_and, and_true, forall_const, false_and, and_false, implies_true, Za2, Za3, Za4, Za5]
    clear hd hlt hi
    generalize v = vi at *
    have hln : ∀ t ∈ ts, t.name.length ≤ 9223372036854775807 := fun t ht => by have := (hT t ht).2; omega
    have hli : ∀ t ∈ xs, t.id.length ≤ 9223372036854775807 := fun t ht => by
      obtain ⟨i, hi⟩ := List.mem_iff_getElem?.mp ht
      obtain ⟨-, _, _, _, _, -, h, -⟩ := h2 i t hi
      exact h
    have hSn : ∀ H, (∀ e ∈ Hn, lk H e.1 = some e.2) → SlS (rdObj F H) vn (ts.map (·.name)) := fun H hl => own_SlS (l := ts.map (·.name)) (by rw [List.length_map]; exact ho) hl (by rw [List.length_map]; omega) (by intro x hx; obtain ⟨t, ht, rfl⟩ := List.mem_map.1 hx; exact hln t ht)
    have hSi : ∀ H, (∀ e ∈ Hq, lk H e.1 = some e.2) → SlS (rdObj F H) vi (xs.map (·.id)) := fun H hl => own_SlS (l := xs.map (·.id)) (by rw [List.length_map]; exact hq) hl (by rw [List.length_map]; omega) (by intro x hx; obtain ⟨t, ht, rfl⟩ := List.mem_map.1 hx; exact hli t ht)
    obtain ⟨bn, cn, rfl, -⟩ := ho.len_le
    obtain ⟨bi, ci, rfl, -⟩ := hq.len_le
    have hlk : ∀ e ∈ Hn ++ Hq, lk ((b1, .cells #[.slice a1 ts.length c1, .slice a2 xs.length c2] 25 (0, 0)) :: (Hn ++ Hq)) e.1 = some e.2 := Okh.lk (A := [_]) hok (by simp only [List.forall_mem_cons]; exact ⟨hob2, fun e he => by cases he⟩)
    refine CallE.pureH (twice_pure _ (hSn _ fun e he => hlk e (List.mem_append_left _ he))) ?_
    simp (disch := first | assumption | exact Ne.symm (by assumption) | omega) only [hF1, ↓ZD, ZU, ne_eq, Zaa, Zab, false_implies, Zac, Zad, Zae, Zaf, Zag, Zah, Zai, Zaj, Zak, Zal, Zam, Zan, Zao, Zap, Zaq, Zar, Zas, Zat, Zau, Zav, Zaw, Zax, Zay, Zaz, Za0, Za1, decide_true, decide_false, beq_self_eq_true, cond_true, cond_false, if_false, if_true, reduceIte, reduceCtorEq, not_true_eq_false, not_false_eq_true, true_and, and_true, forall_const, false_and, and_false, implies_true, Za2, Za3, Za4, Za5]
    refine CallQ.of _ (fun _ => twice_pure _ (hSi _ fun e he => hlk e (List.mem_append_right _ he))) ?_
    unfold chkS tyNames acNames
    simp only
    simp (disch := first | assumption | exact Ne.symm (by assumption) | omega) only [hF1, ↓ZD, ZU, ne_eq, Zaa, Zab, false_implies, Zac, Zad, Zae, Zaf, Zag, Zah, Zai, Zaj, Zak, Zal, Zam, Zan, Zao, Zap, Zaq, Zar, Zas, Zat, Zau, Zav, Zaw, Zax, Zay, Zaz, Za0, Za1, decide_true, decide_false, beq_self_eq_true, cond_true, cond_false, if_false, if_true, reduceIte, reduceCtorEq, not_true_eq_false, not_false_eq_true, true_and, and_true, forall_const, false_and, and_false, implies_true, Za2, Za3, Za4, Za5]
    refine ⟨fun hx => ?_, fun hx => ?_⟩
    · rw [if_pos hx]
    rw [if_neg (by rw [hx]; simp)]
    clear hx
    generalize hR : (if ts.any (badT ⟨ts, xs⟩) = true then (40 : Int) else if xs.any (badA ⟨ts, xs⟩) = true then 40 else if (xs.any fun a => leadsA ⟨ts, xs⟩ a.id a.id) = true then 21 else 0) = R
    refine LoopL.inv (α := Nat) (fun i => i ≤ ts.length ∧ (ts.take i).any (badT ⟨ts, xs⟩) = false)
      (fun i => [(1, some (.pointer (some ⟨b1, 0, none⟩))), (3, some (.slice bn ts.length cn)), (4, some (.slice bi xs.length ci)), (9, some (.func (.func 24) #[] #[])), (49, some (.slice a1 ts.length c1)), (50, some (.int .i64 ts.length)), (51, some (.int .i64 i))])
      (fun i => (b1, .cells #[.slice a1 ts.length c1, .slice a2 xs.length c2] 25 (0, 0)) :: (Hn ++ Hq)) (fun i => ts.length - i) 0 ⟨Nat.zero_le _, rfl⟩ (by (simp only [Le_nil, Le_cons]; simp (disch := first | assumption | exact Ne.symm (by assumption) | omega) only [↓ZD, ZU, ne_eq, Zaa, Zab, false_implies, Zac, Zad, Zae, Zaf, Zag, Zah, Zai, Zaj, Zak, Zal, Zam, Zan, Zao, Zap, Zaq, Zar, Zas, Zat, Zau, Zav, Zaw, Zax, Zay, Zaz, Za0, Za1, decide_true, decide_false, beq_self_eq_true, cond_true, cond_false, if_false, if_true, reduceIte, reduceCtorEq, not_true_eq_false, not_false_eq_true, true_and, and_true, forall_const, false_and, and_false, implies_true, Za2, Za3, Za4, Za5]; try trivial)) ⟨by simp (disch := first | assumption | exact Ne.symm (by assumption) | omega) only [↓ZD, ZU, ne_eq, Zaa, Zab, false_implies, Zac, Zad, Zae, Zaf, Zag, Zah, Zai, Zaj, Zak, Zal, Zam, Zan, Zao, Zap, Zaq, Zar, Zas, Zat, Zau, Zav, Zaw, Zax, Zay, Zaz, Za0, Za1, decide_true, decide_false, beq_self_eq_true, cond_true, cond_false, if_false, if_true, reduceIte, reduceCtorEq, not_true_eq_false, not_false_eq_true, true_and, and_true, forall_const, false_and, and_false, implies_true, Za2, Za3, Za4, Za5], HLe.of hlk⟩ ?_
    rintro i ⟨hi, hbad⟩
    by_cases hlt : i < ts.length
    · have hd : decide ((i : Int) < (ts.length : Int)) = true := by simp; omega
      have gx := getE hlt
      have hxm := List.mem_of_getElem? gx
      have hts := take_snoc gx
      obtain ⟨hcl, e1, e2, hform, hnl, hs1, hs2⟩ := h1 i _ gx
      rw [hform] at hcl
      obtain ⟨hdep, hnm⟩ := hT _ hxm
      generalize ts.getD i nilE = t at *
      have hpath := path_pure F hg t.name hnm
      have hrow := row_pure F hs0 hs2 hdep
      have hsl1 := hs1
      obtain ⟨r1, q1, rfl, -⟩ := hs1
      obtain ⟨r2, q2, _, rfl, -⟩ := hs2
      obtain ⟨ba, oa, rfl, hla⟩ := hcl.ldn
      simp (disch := first | assumption | exact Ne.symm (by assumption) | omega) only [hF1, hd, ↓ZD, ZU, ne_eq, Zaa, Zab, false_implies, Zac, Zad, Zae, Zaf, Zag, Zah, Zai, Zaj, Zak, Zal, Zam, Zan, Zao, Zap, Zaq, Zar, Zas, Zat, Zau, Zav, Zaw, Zax, Zay, Zaz, Za0, Za1, decide_true, decide_false, beq_self_eq_true, cond_true, cond_false, if_false, if_true, reduceIte, reduceCtorEq, not_true_eq_false, not_false_eq_true, true_and, and_true, forall_const, false_and, and_false, implies_true, Za2, Za3, Za4, Za5]
      refine conj.of (by omega) ?_
      simp (disch := first | assumption | exact Ne.symm (by assumption) | omega) only [hF1, hd, Int.toNat_natCast, ↓hla, ↓ZD, ZU, ne_eq, Zaa, Zab, false_implies, Zac, Zad, Zae, Zaf, Zag, Zah, Zai, Zaj, Zak, Zal, Zam, Zan, Zao, Zap, Zaq, Zar, Zas, Zat, Zau, Zav, Zaw, Zax, Zay, Zaz, Za0, Za1, decide_true, decide_false, beq_self_eq_true, cond_true, cond_false, if_false, if_true, reduceIte, reduceCtorEq, not_true_eq_false, not_false_eq_true, true_and, and_true, forall_const, false_and, and_false, implies_true, Za2, Za3, Za4, Za5]
      refine NewB.of fun b2 hb2 hF2 => ?_
      simp only [List.forall_mem_cons] at hb2
      obtain ⟨_, hb2⟩ := hb2
      have hup2 : ∀ o, upd (Hn ++ Hq) b2 o = Hn ++ Hq := fun o => upd_new hb2
      simp (disch := first | assumption | exact Ne.symm (by assumption) | omega) only [hF1, hF2, hup2, ↓ZD, ZU, ne_eq, Zaa, Zab, false_implies, Zac, Zad, Zae, Zaf, Zag, Zah, Zai, Zaj, Zak, Zal, Zam, Zan, Zao, Zap, Zaq, Zar, Zas, Zat, Zau, Zav, Zaw, Zax, Zay, Zaz, Za0, Za1, decide_true, decide_false, beq_self_eq_true, cond_true, cond_false, if_false, if_true, reduceIte, reduceCtorEq, not_true_eq_false, not_false_eq_true, true_and, and_true, forall_const, false_and, and_false, implies_true, Za2, Za3, Za4, Za5]
      refine CallQ.of _ hpath.up ?_
      simp (disch := first | assumption | exact Ne.symm (by assumption) | omega) only [hF1, hF2, ↓ZD, ZU, ne_eq, Zaa, Zab, false_implies, Zac, Zad, Zae, Zaf, Zag, Zah, Zai, Zaj, Zak, Zal, Zam, Zan, Zao, Zap, Zaq, Zar, Zas, Zat, Zau, Zav, Zaw, Zax, Zay, Zaz, Za0, Za1, decide_true, decide_false, beq_self_eq_true, cond_true, cond_false, if_false, if_true, reduceIte, reduceCtorEq, not_true_eq_false, not_false_eq_true, true_and, and_true, forall_const, false_and, and_false, implies_true, Za2, Za3, Za4, Za5]
      have hbT : badT ⟨ts, xs⟩ t = (!pathB t.name || t.name == [65, 99, 116, 105, 111, 110] || lacks (ts.map (·.name)) t.inn || !rowB ⟨ts, xs⟩ t.attrs) := rfl
      generalize hg1 : (!pathB t.name || t.name == [65, 99, 116, 105, 111, 110]) = c1 at *
      have hbi : ∀ c, badT ⟨ts, xs⟩ t = c → (ts.take (i + 1)).any (badT ⟨ts, xs⟩) = c := fun c h => by rw [hts, List.any_append, hbad, ← h]; simp
      cases c1 with
      | true =>
        have hb : ts.any (badT ⟨ts, xs⟩) = true := List.any_eq_true.2 ⟨t, hxm, by rw [hbT]; rfl⟩
        rw [if_pos hb] at hR
        refine stp_callV_guard callNo (by simp (disch := first | assumption | exact Ne.symm (by assumption) | omega) only [↓ZD, ZU, ne_eq, Zaa, Zab, false_implies, Zac, Zad, Zae, Zaf, Zag, Zah, Zai, Zaj, Zak, Zal, Zam, Zan, Zao, Zap, Zaq, Zar, Zas, Zat, Zau, Zav, Zaw, Zax, Zay, Zaz, Za0, Za1, decide_true, decide_false, beq_self_eq_true, cond_true, cond_false, if_false, if_true, reduceIte, reduceCtorEq, not_true_eq_false, not_false_eq_true, true_and, and_true, forall_const, false_and, and_false, implies_true, Za2, Za3, Za4, Za5]) (vs := [.slice bn ts.length cn]) (by simp (disch := first | assumption | exact Ne.symm (by assumption) | omega) only [↓ZD, ZU, ne_eq, Zaa, Zab, false_implies, Zac, Zad, Zae, Zaf, Zag, Zah, Zai, Zaj, Zak, Zal, Zam, Zan, Zao, Zap, Zaq, Zar, Zas, Zat, Zau, Zav, Zaw, Zax, Zay, Zaz, Za0, Za1, decide_true, decide_false, beq_self_eq_true, cond_true, cond_false, if_false, if_true, reduceIte, reduceCtorEq, not_true_eq_false, not_false_eq_true, true_and, and_true, forall_const, false_and, and_false, implies_true, Za2, Za3, Za4, Za5]) (fun h => ?_) (fun h => ?_)
        · have h' : (true : Bool) = false := h.1
          cases h'
        · unfold skp
          simp (disch := first | assumption | exact Ne.symm (by assumption) | omega) only [↓ZD, ZU, ne_eq, Zaa, Zab, false_implies, Zac, Zad, Zae, Zaf, Zag, Zah, Zai, Zaj, Zak, Zal, Zam, Zan, Zao, Zap, Zaq, Zar, Zas, Zat, Zau, Zav, Zaw, Zax, Zay, Zaz, Za0, Za1, decide_true, decide_false, beq_self_eq_true, cond_true, cond_false, if_false, if_true, reduceIte, reduceCtorEq, not_true_eq_false, not_false_eq_true, true_and, and_true, forall_const, false_and, and_false, implies_true, Za2, Za3, Za4, Za5]
          refine CallQ.of (.bool false) trivial ?_
          simp (disch := first | assumption | exact Ne.symm (by assumption) | omega) only [↓ZD, ZU, ne_eq, Zaa, Zab, false_implies, Zac, Zad, Zae, Zaf, Zag, Zah, Zai, Zaj, Zak, Zal, Zam, Zan, Zao, Zap, Zaq, Zar, Zas, Zat, Zau, Zav, Zaw, Zax, Zay, Zaz, Za0, Za1, decide_true, decide_false, beq_self_eq_true, cond_true, cond_false, if_false, if_true, reduceIte, reduceCtorEq, not_true_eq_false, not_false_eq_true, true_and, and_true, forall_const, false_and, and_false, implies_true, Za2, Za3, Za4, Za5]
          refine CallQ.of (.bool false) trivial ?_
          simp (disch := first | assumption | exact Ne.symm (by assumption) | omega) only [↓ZD, ZU, ne_eq, Zaa, Zab, false_implies, Zac, Zad, Zae, Zaf, Zag, Zah, Zai, Zaj, Zak, Zal, Zam, Zan, Zao, Zap, Zaq, Zar, Zas, Zat, Zau, Zav, Zaw, Zax, Zay, Zaz, Za0, Za1, decide_true, decide_false, beq_self_eq_true, cond_true, cond_false, if_false, if_true, reduceIte, reduceCtorEq, not_true_eq_false, not_false_eq_true, true_and, and_true, forall_const, false_and, and_false, implies_true, Za2, Za3, Za4, Za5]
          rw [hR]
      | false =>
        refine stp_callV_guard callNo (by simp (disch := first | assumption | exact Ne.symm (by assumption) | omega) only [↓ZD, ZU, ne_eq, Zaa, Zab, false_implies, Zac, Zad, Zae, Zaf, Zag, Zah, Zai, Zaj, Zak, Zal, Zam, Zan, Zao, Zap, Zaq, Zar, Zas, Zat, Zau, Zav, Zaw, Zax, Zay, Zaz, Za0, Za1, decide_true, decide_false, beq_self_eq_true, cond_true, cond_false, if_false, if_true, reduceIte, reduceCtorEq, not_true_eq_false, not_false_eq_true, true_and, and_true, forall_const, false_and, and_false, implies_true, Za2, Za3, Za4, Za5]) (vs := [.slice bn ts.length cn]) (by simp (disch := first | assumption | exact Ne.symm (by assumption) | omega) only [↓ZD, ZU, ne_eq, Zaa, Zab, false_implies, Zac, Zad, Zae, Zaf, Zag, Zah, Zai, Zaj, Zak, Zal, Zam, Zan, Zao, Zap, Zaq, Zar, Zas, Zat, Zau, Zav, Zaw, Zax, Zay, Zaz, Za0, Za1, decide_true, decide_false, beq_self_eq_true, cond_true, cond_false, if_false, if_true, reduceIte, reduceCtorEq, not_true_eq_false, not_false_eq_true, true_and, and_true, forall_const, false_and, and_false, implies_true, Za2, Za3, Za4, Za5]) (fun h => ?_) (fun h => ?_)
        · refine CallN.news ((no_does F bn ts.length cn).up le_up) ?_
          rintro v H' ⟨b3, rfl, rfl, hF3⟩ hf' hd' hn'
          simp only [List.forall_mem_cons, List.not_mem_nil, false_implies, implies_true, and_true] at hd'
          obtain ⟨hd2, hd1, hdx⟩ := hd'
          have hlk2 : ∀ e ∈ Hn ++ Hq, lk ((b2, .cells #[.string (bs t.name), .slice r1 t.inn.length q1, .slice r2 t.attrs.length q2] 33 (0, 0)) :: (b1, .cells #[.slice (some ⟨ba, oa, none⟩) ts.length c1, .slice a2 xs.length c2] 25 (0, 0)) :: (Hn ++ Hq) ++ [(b3, .cells #[.slice bn ts.length cn] 30 (0, 0))]) e.1 = some e.2 := fun e he => by
            have hq2 : lk ((b2, .cells #[.string (bs t.name), .slice r1 t.inn.length q1, .slice r2 t.attrs.length q2] 33 (0, 0)) :: (b1, .cells #[.slice (some ⟨ba, oa, none⟩) ts.length c1, .slice a2 xs.length c2] 25 (0, 0)) :: (Hn ++ Hq)) e.1 = some e.2 := Okh.lk (A := [_, _]) hok (by simp only [List.forall_mem_cons]; exact ⟨hb2, hob2, fun e he => by cases he⟩) e he
            rw [lk_append, hq2]
          have hb3 := rdObj_app (F := F) (A := (b2, .cells #[.string (bs t.name), .slice r1 t.inn.length q1, .slice r2 t.attrs.length q2] 33 (0, 0)) :: (b1, .cells #[.slice (some ⟨ba, oa, none⟩) ts.length c1, .slice a2 xs.length c2] 25 (0, 0)) :: (Hn ++ Hq)) (B := [(b3, .cells #[.slice bn ts.length cn] 30 (0, 0))]) (b := b3) (o := .cells #[.slice bn ts.length cn] 30 (0, 0)) (by
            simp only [List.forall_mem_cons, List.not_mem_nil, false_implies, implies_true, and_true]
            exact ⟨hd2, hd1, hdx⟩) (by unfold rdObj; rw [hF3]; simp [lk])
          have hlack := lacks_pure _ (hsl1.mono le_up) (hSn _ fun e he => hlk2 e (List.mem_append_left _ he)) b3 30 hb3
          simp (disch := first | assumption | exact Ne.symm (by assumption) | omega) only [hF1, hF2, ↓ZD, ZU, ne_eq, Zaa, Zab, false_implies, Zac, Zad, Zae, Zaf, Zag, Zah, Zai, Zaj, Zak, Zal, Zam, Zan, Zao, Zap, Zaq, Zar, Zas, Zat, Zau, Zav, Zaw, Zax, Zay, Zaz, Za0, Za1, decide_true, decide_false, beq_self_eq_true, cond_true, cond_false, if_false, if_true, reduceIte, reduceCtorEq, not_true_eq_false, not_false_eq_true, true_and, and_true, forall_const, false_and, and_false, implies_true, Za2, Za3, Za4, Za5]
          refine CallQ.of _ hlack ?_
          simp (disch := first | assumption | exact Ne.symm (by assumption) | omega) only [hF1, hF2, ↓ZD, ZU, ne_eq, Zaa, Zab, false_implies, Zac, Zad, Zae, Zaf, Zag, Zah, Zai, Zaj, Zak, Zal, Zam, Zan, Zao, Zap, Zaq, Zar, Zas, Zat, Zau, Zav, Zaw, Zax, Zay, Zaz, Za0, Za1, decide_true, decide_false, beq_self_eq_true, cond_true, cond_false, if_false, if_true, reduceIte, reduceCtorEq, not_true_eq_false, not_false_eq_true, true_and, and_true, forall_const, false_and, and_false, implies_true, Za2, Za3, Za4, Za5]
          refine CallQ.of _ (fun _ => hrow.up) ?_
          simp (disch := first | assumption | exact Ne.symm (by assumption) | omega) only [hF1, hF2, ↓ZD, ZU, ne_eq, Zaa, Zab, false_implies, Zac, Zad, Zae, Zaf, Zag, Zah, Zai, Zaj, Zak, Zal, Zam, Zan, Zao, Zap, Zaq, Zar, Zas, Zat, Zau, Zav, Zaw, Zax, Zay, Zaz, Za0, Za1, decide_true, decide_false, beq_self_eq_true, cond_true, cond_false, if_false, if_true, reduceIte, reduceCtorEq, not_true_eq_false, not_false_eq_true, true_and, and_true, forall_const, false_and, and_false, implies_true, Za2, Za3, Za4, Za5]
          refine ⟨fun hx => ?_, fun hx => ?_⟩
          · have hb : ts.any (badT ⟨ts, xs⟩) = true := List.any_eq_true.2 ⟨t, hxm, by rw [hbT, Bool.false_or]; exact hx⟩
            rw [if_pos hb] at hR
            rw [hR]
          · refine invK.on (i + 1) ⟨by omega, hbi false (by rw [hbT, Bool.false_or]; exact hx)⟩ (by omega) (by (simp only [Le_nil, Le_cons]; simp (disch := first | assumption | exact Ne.symm (by assumption) | omega) only [↓ZD, ZU, ne_eq, Zaa, Zab, false_implies, Zac, Zad, Zae, Zaf, Zag, Zah, Zai, Zaj, Zak, Zal, Zam, Zan, Zao, Zap, Zaq, Zar, Zas, Zat, Zau, Zav, Zaw, Zax, Zay, Zaz, Za0, Za1, decide_true, decide_false, beq_self_eq_true, cond_true, cond_false, if_false, if_true, reduceIte, reduceCtorEq, not_true_eq_false, not_false_eq_true, true_and, and_true, forall_const, false_and, and_false, implies_true, Za2, Za3, Za4, Za5]; try trivial)) ⟨by simp (disch := first | assumption | exact Ne.symm (by assumption) | omega) only [↓ZD, ZU, ne_eq, Zaa, Zab, false_implies, Zac, Zad, Zae, Zaf, Zag, Zah, Zai, Zaj, Zak, Zal, Zam, Zan, Zao, Zap, Zaq, Zar, Zas, Zat, Zau, Zav, Zaw, Zax, Zay, Zaz, Za0, Za1, decide_true, decide_false, beq_self_eq_true, cond_true, cond_false, if_false, if_true, reduceIte, reduceCtorEq, not_true_eq_false, not_false_eq_true, true_and, and_true, forall_const, false_and, and_false, implies_true, Za2, Za3, Za4, Za5], HLe.of fun e he => ?_⟩
            have := hlk2 e he
            simpa only [List.cons_append] using this
        · have h' : (false : Bool) = true := h
          cases h'
    · have hd : decide ((i : Int) < (ts.length : Int)) = false := by simp; omega
      obtain rfl : i = ts.length := by omega
      rw [List.take_length] at hbad
      rw [if_neg (by rw [hbad]; simp)] at hR
      simp (disch := first | assumption | exact Ne.symm (by assumption) | omega) only [hF1, hd, ↓ZD, ZU, ne_eq, Zaa, Zab, false_implies, Zac, Zad, Zae, Zaf, Zag, Zah, Zai, Zaj, Zak, Zal, Zam, Zan, Zao, Zap, Zaq, Zar, Zas, Zat, Zau, Zav, Zaw, Zax, Zay, Zaz, Za0, Za1, decide_true, decide_false, beq_self_eq_true, cond_true, cond_false, if_false, if_true, reduceIte, reduceCtorEq, not_true_eq_false, not_false_eq_true, true_and, and_true, forall_const, false_and, and_false, implies_true, Za2, Za3, Za4, Za5]
      clear hd hlt hi hbad
      refine LoopL.inv (α := Nat) (fun i => i ≤ xs.length ∧ (xs.take i).any (badA ⟨ts, xs⟩) = false)
        (fun i => [(1, some (.pointer (some ⟨b1, 0, none⟩))), (3, some (.slice bn ts.length cn)), (4, some (.slice bi xs.length ci)), (9, some (.func (.func 24) #[] #[])), (81, some (.slice a2 xs.length c2)), (82, some (.int .i64 xs.length)), (83, some (.int .i64 i))])
        (fun i => (b1, .cells #[.slice a1 ts.length c1, .slice a2 xs.length c2] 25 (0, 0)) :: (Hn ++ Hq)) (fun i => xs.length - i) 0 ⟨Nat.zero_le _, rfl⟩ (by (simp only [Le_nil, Le_cons]; simp (disch := first | assumption | exact Ne.symm (by assumption) | omega) only [↓ZD, ZU, ne_eq, Zaa, Zab, false_implies, Zac, Zad, Zae, Zaf, Zag, Zah, Zai, Zaj, Zak, Zal, Zam, Zan, Zao, Zap, Zaq, Zar, Zas, Zat, Zau, Zav, Zaw, Zax, Zay, Zaz, Za0, Za1, decide_true, decide_false, beq_self_eq_true, cond_true, cond_false, if_false, if_true, reduceIte, reduceCtorEq, not_true_eq_false, not_false_eq_true, true_and, and_true, forall_const, false_and, and_false, implies_true, Za2, Za3, Za4, Za5]; try trivial)) ⟨by simp (disch := first | assumption | exact Ne.symm (by assumption) | omega) only [↓ZD, ZU, ne_eq, Zaa, Zab, false_implies, Zac, Zad, Zae, Zaf, Zag, Zah, Zai, Zaj, Zak, Zal, Zam, Zan, Zao, Zap, Zaq, Zar, Zas, Zat, Zau, Zav, Zaw, Zax, Zay, Zaz, Za0, Za1, decide_true, decide_false, beq_self_eq_true, cond_true, cond_false, if_false, if_true, reduceIte, reduceCtorEq, not_true_eq_false, not_false_eq_true, true_and, and_true, forall_const, false_and, and_false, implies_true, Za2, Za3, Za4, Za5], HLe.of hlk⟩ ?_
      rintro i ⟨hi, hbad⟩
      by_cases hlt : i < xs.length
      · have hd : decide ((i : Int) < (xs.length : Int)) = true := by simp; omega
        have gx := getC hlt
        have hxm := List.mem_of_getElem? gx
        have hts := take_snoc gx
        obtain ⟨hcl, e1, e2, e3, e4, hform, hnl, hs1, hs2, hs3, hs4⟩ := h2 i _ gx
        rw [hform] at hcl
        have hdep := hA _ hxm
        generalize xs.getD i nilC = t at *
        have hrow := row_pure F hs0 hs4 hdep
        have hsl1 := hs1
        have hsl2 := hs2
        have hsl3 := hs3
        obtain ⟨r1, q1, rfl, -⟩ := hs1
        obtain ⟨r2, q2, rfl, -⟩ := hs2
        obtain ⟨r3, q3, rfl, -⟩ := hs3
        obtain ⟨r4, q4, _, rfl, -⟩ := hs4
        obtain ⟨ba, oa, rfl, hla⟩ := hcl.ldn
        have hbT : badA ⟨ts, xs⟩ t = (lacks (xs.map (·.id)) t.inn || lacks (ts.map (·.name)) t.prs || lacks (ts.map (·.name)) t.res || !rowB ⟨ts, xs⟩ t.ctx) := rfl
        have hbi : ∀ c, badA ⟨ts, xs⟩ t = c → (xs.take (i + 1)).any (badA ⟨ts, xs⟩) = c := fun c h => by rw [hts, List.any_append, hbad, ← h]; simp
        have hR40 : badA ⟨ts, xs⟩ t = true → R = 40 := fun h => by
          rw [← hR, if_pos (List.any_eq_true.2 ⟨t, hxm, h⟩)]
        simp (disch := first | assumption | exact Ne.symm (by assumption) | omega) only [hF1, hd, ↓ZD, ZU, ne_eq, Zaa, Zab, false_implies, Zac, Zad, Zae, Zaf, Zag, Zah, Zai, Zaj, Zak, Zal, Zam, Zan, Zao, Zap, Zaq, Zar, Zas, Zat, Zau, Zav, Zaw, Zax, Zay, Zaz, Za0, Za1, decide_true, decide_false, beq_self_eq_true, cond_true, cond_false, if_false, if_true, reduceIte, reduceCtorEq, not_true_eq_false, not_false_eq_true, true_and, and_true, forall_const, false_and, and_false, implies_true, Za2, Za3, Za4, Za5]
        refine conj.of (by omega) ?_
        simp (disch := first | assumption | exact Ne.symm (by assumption) | omega) only [hF1, hd, Int.toNat_natCast, ↓hla, ↓ZD, ZU, ne_eq, Zaa, Zab, false_implies, Zac, Zad, Zae, Zaf, Zag, Zah, Zai, Zaj, Zak, Zal, Zam, Zan, Zao, Zap, Zaq, Zar, Zas, Zat, Zau, Zav, Zaw, Zax, Zay, Zaz, Za0, Za1, decide_true, decide_false, beq_self_eq_true, cond_true, cond_false, if_false, if_true, reduceIte, reduceCtorEq, not_true_eq_false, not_false_eq_true, true_and, and_true, forall_const, false_and, and_false, implies_true, Za2, Za3, Za4, Za5]
        refine NewB.of fun b2 hb2 hF2 => ?_
        simp only [List.forall_mem_cons] at hb2
        obtain ⟨_, hb2⟩ := hb2
        have hup2 : ∀ o, upd (Hn ++ Hq) b2 o = Hn ++ Hq := fun o => upd_new hb2
        have hlk1 : ∀ e ∈ Hn ++ Hq, lk ((b2, .cells #[.string (bs t.id), .slice r1 t.inn.length q1, .slice r2 t.prs.length q2, .slice r3 t.res.length q3, .slice r4 t.ctx.length q4] 37 (0, 0)) :: (b1, .cells #[.slice a1 ts.length c1, .slice (some ⟨ba, oa, none⟩) xs.length c2] 25 (0, 0)) :: (Hn ++ Hq)) e.1 = some e.2 := Okh.lk (A := [_, _]) hok (by simp only [List.forall_mem_cons]; exact ⟨hb2, hob2, fun e he => by cases he⟩)
        simp (disch := first | assumption | exact Ne.symm (by assumption) | omega) only [hF1, hF2, hup2, ↓ZD, ZU, ne_eq, Zaa, Zab, false_implies, Zac, Zad, Zae, Zaf, Zag, Zah, Zai, Zaj, Zak, Zal, Zam, Zan, Zao, Zap, Zaq, Zar, Zas, Zat, Zau, Zav, Zaw, Zax, Zay, Zaz, Za0, Za1, decide_true, decide_false, beq_self_eq_true, cond_true, cond_false, if_false, if_true, reduceIte, reduceCtorEq, not_true_eq_false, not_false_eq_true, true_and, and_true, forall_const, false_and, and_false, implies_true, Za2, Za3, Za4, Za5]
        refine CallNF.one callNo (CallN.news ((no_does F bi xs.length ci).up le_up) ?_)
        rintro v1 H1 ⟨b3, rfl, rfl, hF3⟩ - hd1 -
        have hlk2 := lk_ext (B := [(b3, .cells #[.slice bi xs.length ci] 30 (0, 0))]) hlk1
        have hl1 := lacks_pure _ (hsl1.mono le_up) (hSi _ fun e he => hlk2 e (List.mem_append_right _ he)) b3 30 (rd_last hF3 hd1)
        simp only [List.forall_mem_cons, List.not_mem_nil, false_implies, implies_true, and_true] at hd1
        obtain ⟨hd12, hd11, hd1x⟩ := hd1
        simp (disch := first | assumption | exact Ne.symm (by assumption) | omega) only [hF1, hF2, hF3, ↓ZD, ZU, ne_eq, Zaa, Zab, false_implies, Zac, Zad, Zae, Zaf, Zag, Zah, Zai, Zaj, Zak, Zal, Zam, Zan, Zao, Zap, Zaq, Zar, Zas, Zat, Zau, Zav, Zaw, Zax, Zay, Zaz, Za0, Za1, decide_true, decide_false, beq_self_eq_true, cond_true, cond_false, if_false, if_true, reduceIte, reduceCtorEq, not_true_eq_false, not_false_eq_true, true_and, and_true, forall_const, false_and, and_false, implies_true, Za2, Za3, Za4, Za5]
        refine CallQ.of _ hl1 ?_
        simp (disch := first | assumption | exact Ne.symm (by assumption) | omega) only [hF1, hF2, hF3, ↓ZD, ZU, ne_eq, Zaa, Zab, false_implies, Zac, Zad, Zae, Zaf, Zag, Zah, Zai, Zaj, Zak, Zal, Zam, Zan, Zao, Zap, Zaq, Zar, Zas, Zat, Zau, Zav, Zaw, Zax, Zay, Zaz, Za0, Za1, decide_true, decide_false, beq_self_eq_true, cond_true, cond_false, if_false, if_true, reduceIte, reduceCtorEq, not_true_eq_false, not_false_eq_true, true_and, and_true, forall_const, false_and, and_false, implies_true, Za2, Za3, Za4, Za5]
        generalize lacks (xs.map (·.id)) t.inn = x1 at *
        cases x1 with
        | true =>
          refine stp_callV_guard callNo (by simp (disch := first | assumption | exact Ne.symm (by assumption) | omega) only [↓ZD, ZU, ne_eq, Zaa, Zab, false_implies, Zac, Zad, Zae, Zaf, Zag, Zah, Zai, Zaj, Zak, Zal, Zam, Zan, Zao, Zap, Zaq, Zar, Zas, Zat, Zau, Zav, Zaw, Zax, Zay, Zaz, Za0, Za1, decide_true, decide_false, beq_self_eq_true, cond_true, cond_false, if_false, if_true, reduceIte, reduceCtorEq, not_true_eq_false, not_false_eq_true, true_and, and_true, forall_const, false_and, and_false, implies_true, Za2, Za3, Za4, Za5]) (vs := [.slice bn ts.length cn]) (by simp (disch := first | assumption | exact Ne.symm (by assumption) | omega) only [↓ZD, ZU, ne_eq, Zaa, Zab, false_implies, Zac, Zad, Zae, Zaf, Zag, Zah, Zai, Zaj, Zak, Zal, Zam, Zan, Zao, Zap, Zaq, Zar, Zas, Zat, Zau, Zav, Zaw, Zax, Zay, Zaz, Za0, Za1, decide_true, decide_false, beq_self_eq_true, cond_true, cond_false, if_false, if_true, reduceIte, reduceCtorEq, not_true_eq_false, not_false_eq_true, true_and, and_true, forall_const, false_and, and_false, implies_true, Za2, Za3, Za4, Za5]) (fun h => ?_) (fun h => ?_)
          · have h' : (true : Bool) = false := h.1
            cases h'
          · unfold skp
            simp (disch := first | assumption | exact Ne.symm (by assumption) | omega) only [↓ZD, ZU, ne_eq, Zaa, Zab, false_implies, Zac, Zad, Zae, Zaf, Zag, Zah, Zai, Zaj, Zak, Zal, Zam, Zan, Zao, Zap, Zaq, Zar, Zas, Zat, Zau, Zav, Zaw, Zax, Zay, Zaz, Za0, Za1, decide_true, decide_false, beq_self_eq_true, cond_true, cond_false, if_false, if_true, reduceIte, reduceCtorEq, not_true_eq_false, not_false_eq_true, true_and, and_true, forall_const, false_and, and_false, implies_true, Za2, Za3, Za4, Za5]
            refine CallQ.of (.bool false) trivial ?_
            simp (disch := first | assumption | exact Ne.symm (by assumption) | omega) only [↓ZD, ZU, ne_eq, Zaa, Zab, false_implies, Zac, Zad, Zae, Zaf, Zag, Zah, Zai, Zaj, Zak, Zal, Zam, Zan, Zao, Zap, Zaq, Zar, Zas, Zat, Zau, Zav, Zaw, Zax, Zay, Zaz, Za0, Za1, decide_true, decide_false, beq_self_eq_true, cond_true, cond_false, if_false, if_true, reduceIte, reduceCtorEq, not_true_eq_false, not_false_eq_true, true_and, and_true, forall_const, false_and, and_false, implies_true, Za2, Za3, Za4, Za5]
            refine stp_callV_guard callNo (by simp (disch := first | assumption | exact Ne.symm (by assumption) | omega) only [↓ZD, ZU, ne_eq, Zaa, Zab, false_implies, Zac, Zad, Zae, Zaf, Zag, Zah, Zai, Zaj, Zak, Zal, Zam, Zan, Zao, Zap, Zaq, Zar, Zas, Zat, Zau, Zav, Zaw, Zax, Zay, Zaz, Za0, Za1, decide_true, decide_false, beq_self_eq_true, cond_true, cond_false, if_false, if_true, reduceIte, reduceCtorEq, not_true_eq_false, not_false_eq_true, true_and, and_true, forall_const, false_and, and_false, implies_true, Za2, Za3, Za4, Za5]) (vs := [.slice bn ts.length cn]) (by simp (disch := first | assumption | exact Ne.symm (by assumption) | omega) only [↓ZD, ZU, ne_eq, Zaa, Zab, false_implies, Zac, Zad, Zae, Zaf, Zag, Zah, Zai, Zaj, Zak, Zal, Zam, Zan, Zao, Zap, Zaq, Zar, Zas, Zat, Zau, Zav, Zaw, Zax, Zay, Zaz, Za0, Za1, decide_true, decide_false, beq_self_eq_true, cond_true, cond_false, if_false, if_true, reduceIte, reduceCtorEq, not_true_eq_false, not_false_eq_true, true_and, and_true, forall_const, false_and, and_false, implies_true, Za2, Za3, Za4, Za5]) (fun h => ?_) (fun h => ?_)
            · have h' : (true : Bool) = false := h.1
              cases h'
            · unfold skp
              simp (disch := first | assumption | exact Ne.symm (by assumption) | omega) only [↓ZD, ZU, ne_eq, Zaa, Zab, false_implies, Zac, Zad, Zae, Zaf, Zag, Zah, Zai, Zaj, Zak, Zal, Zam, Zan, Zao, Zap, Zaq, Zar, Zas, Zat, Zau, Zav, Zaw, Zax, Zay, Zaz, Za0, Za1, decide_true, decide_false, beq_self_eq_true, cond_true, cond_false, if_false, if_true, reduceIte, reduceCtorEq, not_true_eq_false, not_false_eq_true, true_and, and_true, forall_const, false_and, and_false, implies_true, Za2, Za3, Za4, Za5]
              refine CallQ.of (.bool false) trivial ?_
              simp (disch := first | assumption | exact Ne.symm (by assumption) | omega) only [↓ZD, ZU, ne_eq, Zaa, Zab, false_implies, Zac, Zad, Zae, Zaf, Zag, Zah, Zai, Zaj, Zak, Zal, Zam, Zan, Zao, Zap, Zaq, Zar, Zas, Zat, Zau, Zav, Zaw, Zax, Zay, Zaz, Za0, Za1, decide_true, decide_false, beq_self_eq_true, cond_true, cond_false, if_false, if_true, reduceIte, reduceCtorEq, not_true_eq_false, not_false_eq_true, true_and, and_true, forall_const, false_and, and_false, implies_true, Za2, Za3, Za4, Za5]
              refine CallQ.of (.bool false) trivial ?_
              simp (disch := first | assumption | exact Ne.symm (by assumption) | omega) only [↓ZD, ZU, ne_eq, Zaa, Zab, false_implies, Zac, Zad, Zae, Zaf, Zag, Zah, Zai, Zaj, Zak, Zal, Zam, Zan, Zao, Zap, Zaq, Zar, Zas, Zat, Zau, Zav, Zaw, Zax, Zay, Zaz, Za0, Za1, decide_true, decide_false, beq_self_eq_true, cond_true, cond_false, if_false, if_true, reduceIte, reduceCtorEq, not_true_eq_false, not_false_eq_true, true_and, and_true, forall_const, false_and, and_false, implies_true, Za2, Za3, Za4, Za5]
              rw [hR40 (by rw [hbT]; rfl)]
        | false =>
          refine stp_callV_guard callNo (by simp (disch := first | assumption | exact Ne.symm (by assumption) | omega) only [↓ZD, ZU, ne_eq, Zaa, Zab, false_implies, Zac, Zad, Zae, Zaf, Zag, Zah, Zai, Zaj, Zak, Zal, Zam, Zan, Zao, Zap, Zaq, Zar, Zas, Zat, Zau, Zav, Zaw, Zax, Zay, Zaz, Za0, Za1, decide_true, decide_false, beq_self_eq_true, cond_true, cond_false, if_false, if_true, reduceIte, reduceCtorEq, not_true_eq_false, not_false_eq_true, true_and, and_true, forall_const, false_and, and_false, implies_true, Za2, Za3, Za4, Za5]) (vs := [.slice bn ts.length cn]) (by simp (disch := first | assumption | exact Ne.symm (by assumption) | omega) only [↓ZD, ZU, ne_eq, Zaa, Zab, false_implies, Zac, Zad, Zae, Zaf, Zag, Zah, Zai, Zaj, Zak, Zal, Zam, Zan, Zao, Zap, Zaq, Zar, Zas, Zat, Zau, Zav, Zaw, Zax, Zay, Zaz, Za0, Za1, decide_true, decide_false, beq_self_eq_true, cond_true, cond_false, if_false, if_true, reduceIte, reduceCtorEq, not_true_eq_false, not_false_eq_true, true_and, and_true, forall_const, false_and, and_false, implies_true, Za2, Za3, Za4, Za5]) (fun h => ?_) (fun h => ?_)
          · refine CallN.news ((no_does F bn ts.length cn).up le_up) ?_
            rintro v2 H2 ⟨b4, rfl, rfl, hF4⟩ - hd2 -
            have hlk3 := lk_ext (B := [(b4, .cells #[.slice bn ts.length cn] 30 (0, 0))]) hlk2
            have hl2 := lacks_pure _ (hsl2.mono le_up) (hSn _ fun e he => hlk3 e (List.mem_append_left _ he)) b4 30 (rd_last hF4 hd2)
            simp only [List.forall_mem_cons, List.not_mem_nil, false_implies, implies_true, and_true] at hd2
            obtain ⟨hd22, hd21, hd2x⟩ := hd2
            simp (disch := first | assumption | exact Ne.symm (by assumption) | omega) only [hF1, hF2, hF3, hF4, ↓ZD, ZU, ne_eq, Zaa, Zab, false_implies, Zac, Zad, Zae, Zaf, Zag, Zah, Zai, Zaj, Zak, Zal, Zam, Zan, Zao, Zap, Zaq, Zar, Zas, Zat, Zau, Zav, Zaw, Zax, Zay, Zaz, Za0, Za1, decide_true, decide_false, beq_self_eq_true, cond_true, cond_false, if_false, if_true, reduceIte, reduceCtorEq, not_true_eq_false, not_false_eq_true, true_and, and_true, forall_const, false_and, and_false, implies_true, Za2, Za3, Za4, Za5]
            refine CallQ.of _ hl2 ?_
            simp (disch := first | assumption | exact Ne.symm (by assumption) | omega) only [hF1, hF2, hF3, hF4, ↓ZD, ZU, ne_eq, Zaa, Zab, false_implies, Zac, Zad, Zae, Zaf, Zag, Zah, Zai, Zaj, Zak, Zal, Zam, Zan, Zao, Zap, Zaq, Zar, Zas, Zat, Zau, Zav, Zaw, Zax, Zay, Zaz, Za0, Za1, decide_true, decide_false, beq_self_eq_true, cond_true, cond_false, if_false, if_true, reduceIte, reduceCtorEq, not_true_eq_false, not_false_eq_true, true_and, and_true, forall_const, false_and, and_false, implies_true, Za2, Za3, Za4, Za5]
            generalize lacks (ts.map (·.name)) t.prs = x2 at *
            cases x2 with
            | true =>
              refine stp_callV_guard callNo (by simp (disch := first | assumption | exact Ne.symm (by assumption) | omega) only [↓ZD, ZU, ne_eq, Zaa, Zab, false_implies, Zac, Zad, Zae, Zaf, Zag, Zah, Zai, Zaj, Zak, Zal, Zam, Zan, Zao, Zap, Zaq, Zar, Zas, Zat, Zau, Zav, Zaw, Zax, Zay, Zaz, Za0, Za1, decide_true, decide_false, beq_self_eq_true, cond_true, cond_false, if_false, if_true, reduceIte, reduceCtorEq, not_true_eq_false, not_false_eq_true, true_and, and_true, forall_const, false_and, and_false, implies_true, Za2, Za3, Za4, Za5]) (vs := [.slice bn ts.length cn]) (by simp (disch := first | assumption | exact Ne.symm (by assumption) | omega) only [↓ZD, ZU, ne_eq, Zaa, Zab, false_implies, Zac, Zad, Zae, Zaf, Zag, Zah, Zai, Zaj, Zak, Zal, Zam, Zan, Zao, Zap, Zaq, Zar, Zas, Zat, Zau, Zav, Zaw, Zax, Zay, Zaz, Za0, Za1, decide_true, decide_false, beq_self_eq_true, cond_true, cond_false, if_false, if_true, reduceIte, reduceCtorEq, not_true_eq_false, not_false_eq_true, true_and, and_true, forall_const, false_and, and_false, implies_true, Za2, Za3, Za4, Za5]) (fun h => ?_) (fun h => ?_)
              · have h' : (true : Bool) = false := h.1
                cases h'
              · unfold skp
                simp (disch := first | assumption | exact Ne.symm (by assumption) | omega) only [↓ZD, ZU, ne_eq, Zaa, Zab, false_implies, Zac, Zad, Zae, Zaf, Zag, Zah, Zai, Zaj, Zak, Zal, Zam, Zan, Zao, Zap, Zaq, Zar, Zas, Zat, Zau, Zav, Zaw, Zax, Zay, Zaz, Za0, Za1, decide_true, decide_false, beq_self_eq_true, cond_true, cond_false, if_false, if_true, reduceIte, reduceCtorEq, not_true_eq_false, not_false_eq_true, true_and, and_true, forall_const, false_and, and_false, implies_true, Za2, Za3, Za4, Za5]
                refine CallQ.of (.bool false) trivial ?_
                simp (disch := first | assumption | exact Ne.symm (by assumption) | omega) only [↓ZD, ZU, ne_eq, Zaa, Zab, false_implies, Zac, Zad, Zae, Zaf, Zag, Zah, Zai, Zaj, Zak, Zal, Zam, Zan, Zao, Zap, Zaq, Zar, Zas, Zat, Zau, Zav, Zaw, Zax, Zay, Zaz, Za0, Za1, decide_true, decide_false, beq_self_eq_true, cond_true, cond_false, if_false, if_true, reduceIte, reduceCtorEq, not_true_eq_false, not_false_eq_true, true_and, and_true, forall_const, false_and, and_false, implies_true, Za2, Za3, Za4, Za5]
                refine CallQ.of (.bool false) trivial ?_
                simp (disch := first | assumption | exact Ne.symm (by assumption) | omega) only [↓ZD, ZU, ne_eq, Zaa, Zab, false_implies, Zac, Zad, Zae, Zaf, Zag, Zah, Zai, Zaj, Zak, Zal, Zam, Zan, Zao, Zap, Zaq, Zar, Zas, Zat, Zau, Zav, Zaw, Zax, Zay, Zaz, Za0, Za1, decide_true, decide_false, beq_self_eq_true, cond_true, cond_false, if_false, if_true, reduceIte, reduceCtorEq, not_true_eq_false, not_false_eq_true, true_and, and_true, forall_const, false_and, and_false, implies_true, Za2, Za3, Za4, Za5]
                rw [hR40 (by rw [hbT]; rfl)]
            | false =>
              refine stp_callV_guard callNo (by simp (disch := first | assumption | exact Ne.symm (by assumption) | omega) only [↓ZD, ZU, ne_eq, Zaa, Zab, false_implies, Zac, Zad, Zae, Zaf, Zag, Zah, Zai, Zaj, Zak, Zal, Zam, Zan, Zao, Zap, Zaq, Zar, Zas, Zat, Zau, Zav, Zaw, Zax, Zay, Zaz, Za0, Za1, decide_true, decide_false, beq_self_eq_true, cond_true, cond_false, if_false, if_true, reduceIte, reduceCtorEq, not_true_eq_false, not_false_eq_true, true_and, and_true, forall_const, false_and, and_false, implies_true, Za2, Za3, Za4, Za5]) (vs := [.slice bn ts.length cn]) (by simp (disch := first | assumption | exact Ne.symm (by assumption) | omega) only [↓ZD, ZU, ne_eq, Zaa, Zab, false_implies, Zac, Zad, Zae, Zaf, Zag, Zah, Zai, Zaj, Zak, Zal, Zam, Zan, Zao, Zap, Zaq, Zar, Zas, Zat, Zau, Zav, Zaw, Zax, Zay, Zaz, Za0, Za1, decide_true, decide_false, beq_self_eq_true, cond_true, cond_false, if_false, if_true, reduceIte, reduceCtorEq, not_true_eq_false, not_false_eq_true, true_and, and_true, forall_const, false_and, and_false, implies_true, Za2, Za3, Za4, Za5]) (fun h => ?_) (fun h => ?_)
              · refine CallN.news ((no_does F bn ts.length cn).up le_up) ?_
                rintro v3 H3 ⟨b5, rfl, rfl, hF5⟩ - hd3 -
                have hlk4 := lk_ext (B := [(b5, .cells #[.slice bn ts.length cn] 30 (0, 0))]) hlk3
                have hl3 := lacks_pure _ (hsl3.mono le_up) (hSn _ fun e he => hlk4 e (List.mem_append_left _ he)) b5 30 (rd_last hF5 hd3)
                simp only [List.forall_mem_cons, List.not_mem_nil, false_implies, implies_true, and_true] at hd3
                obtain ⟨hd32, hd31, hd3x⟩ := hd3
                simp (disch := first | assumption | exact Ne.symm (by assumption) | omega) only [hF1, hF2, hF3, hF4, ↓ZD, ZU, ne_eq, Zaa, Zab, false_implies, Zac, Zad, Zae, Zaf, Zag, Zah, Zai, Zaj, Zak, Zal, Zam, Zan, Zao, Zap, Zaq, Zar, Zas, Zat, Zau, Zav, Zaw, Zax, Zay, Zaz, Za0, Za1, decide_true, decide_false, beq_self_eq_true, cond_true, cond_false, if_false, if_true, reduceIte, reduceCtorEq, not_true_eq_false, not_false_eq_true, true_and, and_true, forall_const, false_and, and_false, implies_true, Za2, Za3, Za4, Za5]
                refine CallQ.of _ hl3 ?_
                simp (disch := first | assumption | exact Ne.symm (by assumption) | omega) only [hF1, hF2, hF3, hF4, ↓ZD, ZU, ne_eq, Zaa, Zab, false_implies, Zac, Zad, Zae, Zaf, Zag, Zah, Zai, Zaj, Zak, Zal, Zam, Zan, Zao, Zap, Zaq, Zar, Zas, Zat, Zau, Zav, Zaw, Zax, Zay, Zaz, Za0, Za1, decide_true, decide_false, beq_self_eq_true, cond_true, cond_false, if_false, if_true, reduceIte, reduceCtorEq, not_true_eq_false, not_false_eq_true, true_and, and_true, forall_const, false_and, and_false, implies_true, Za2, Za3, Za4, Za5]
                refine CallQ.of _ (fun _ => hrow.up) ?_
                simp (disch := first | assumption | exact Ne.symm (by assumption) | omega) only [hF1, hF2, hF3, hF4, ↓ZD, ZU, ne_eq, Zaa, Zab, false_implies, Zac, Zad, Zae, Zaf, Zag, Zah, Zai, Zaj, Zak, Zal, Zam, Zan, Zao, Zap, Zaq, Zar, Zas, Zat, Zau, Zav, Zaw, Zax, Zay, Zaz, Za0, Za1, decide_true, decide_false, beq_self_eq_true, cond_true, cond_false, if_false, if_true, reduceIte, reduceCtorEq, not_true_eq_false, not_false_eq_true, true_and, and_true, forall_const, false_and, and_false, implies_true, Za2, Za3, Za4, Za5]
                refine ⟨fun hx => ?_, fun hx => ?_⟩
                · rw [hR40 (by rw [hbT]; simpa using hx)]
                · refine invK.on (i + 1) ⟨by omega, hbi false (by rw [hbT]; simpa using hx)⟩ (by omega) (by (simp only [Le_nil, Le_cons]; simp (disch := first | assumption | exact Ne.symm (by assumption) | omega) only [↓ZD, ZU, ne_eq, Zaa, Zab, false_implies, Zac, Zad, Zae, Zaf, Zag, Zah, Zai, Zaj, Zak, Zal, Zam, Zan, Zao, Zap, Zaq, Zar, Zas, Zat, Zau, Zav, Zaw, Zax, Zay, Zaz, Za0, Za1, decide_true, decide_false, beq_self_eq_true, cond_true, cond_false, if_false, if_true, reduceIte, reduceCtorEq, not_true_eq_false, not_false_eq_true, true_and, and_true, forall_const, false_and, and_false, implies_true, Za2, Za3, Za4, Za5]; try trivial)) ⟨by simp (disch := first | assumption | exact Ne.symm (by assumption) | omega) only [↓ZD, ZU, ne_eq, Zaa, Zab, false_implies, Zac, Zad, Zae, Zaf, Zag, Zah, Zai, Zaj, Zak, Zal, Zam, Zan, Zao, Zap, Zaq, Zar, Zas, Zat, Zau, Zav, Zaw, Zax, Zay, Zaz, Za0, Za1, decide_true, decide_false, beq_self_eq_true, cond_true, cond_false, if_false, if_true, reduceIte, reduceCtorEq, not_true_eq_false, not_false_eq_true, true_and, and_true, forall_const, false_and, and_false, implies_true, Za2, Za3, Za4, Za5], HLe.of fun e he => ?_⟩
                  have := hlk4 e he
                  simpa only [List.cons_append] using this
              · have h' : (false : Bool) = true := h
                cases h'
          · have h' : (false : Bool) = true := h
            cases h'
      · have hd : decide ((i : Int) < (xs.length : Int)) = false := by simp; omega
        obtain rfl : i = xs.length := by omega
        rw [List.take_length] at hbad
        rw [if_neg (by rw [hbad]; simp)] at hR
        simp (disch := first | assumption | exact Ne.symm (by assumption) | omega) only [hF1, hd, ↓ZD, ZU, ne_eq, Zaa, Zab, false_implies, Zac, Zad, Zae, Zaf, Zag, Zah, Zai, Zaj, Zak, Zal, Zam, Zan, Zao, Zap, Zaq, Zar, Zas, Zat, Zau, Zav, Zaw, Zax, Zay, Zaz, Za0, Za1, decide_true, decide_false, beq_self_eq_true, cond_true, cond_false, if_false, if_true, reduceIte, reduceCtorEq, not_true_eq_false, not_false_eq_true, true_and, and_true, forall_const, false_and, and_false, implies_true, Za2, Za3, Za4, Za5]
        clear hd hlt hi hbad
        refine LoopL.inv (α := Nat) (fun i => i ≤ xs.length ∧ (xs.take i).any (fun a => leadsA ⟨ts, xs⟩ a.id a.id) = false)
          (fun i => [(1, some (.pointer (some ⟨b1, 0, none⟩))), (4, some (.slice bi xs.length ci)), (117, some (.slice bi xs.length ci)), (118, some (.int .i64 xs.length)), (119, some (.int .i64 i))])
          (fun i => (b1, .cells #[.slice a1 ts.length c1, .slice a2 xs.length c2] 25 (0, 0)) :: (Hn ++ Hq)) (fun i => xs.length - i) 0 ⟨Nat.zero_le _, rfl⟩ (by (simp only [Le_nil, Le_cons]; simp (disch := first | assumption | exact Ne.symm (by assumption) | omega) only [↓ZD, ZU, ne_eq, Zaa, Zab, false_implies, Zac, Zad, Zae, Zaf, Zag, Zah, Zai, Zaj, Zak, Zal, Zam, Zan, Zao, Zap, Zaq, Zar, Zas, Zat, Zau, Zav, Zaw, Zax, Zay, Zaz, Za0, Za1, decide_true, decide_false, beq_self_eq_true, cond_true, cond_false, if_false, if_true, reduceIte, reduceCtorEq, not_true_eq_false, not_false_eq_true, true_and, and_true, forall_const, false_and, and_false, implies_true, Za2, Za3, Za4, Za5]; try trivial)) ⟨by simp (disch := first | assumption | exact Ne.symm (by assumption) | omega) only [↓ZD, ZU, ne_eq, Zaa, Zab, false_implies, Zac, Zad, Zae, Zaf, Zag, Zah, Zai, Zaj, Zak, Zal, Zam, Zan, Zao, Zap, Zaq, Zar, Zas, Zat, Zau, Zav, Zaw, Zax, Zay, Zaz, Za0, Za1, decide_true, decide_false, beq_self_eq_true, cond_true, cond_false, if_false, if_true, reduceIte, reduceCtorEq, not_true_eq_false, not_false_eq_true, true_and, and_true, forall_const, false_and, and_false, implies_true, Za2, Za3, Za4, Za5], HLe.of hlk⟩ ?_
        rintro i ⟨hi, hbad⟩
        by_cases hlt : i < xs.length
        · have hd : decide ((i : Int) < (xs.length : Int)) = true := by simp; omega
          have gx := getC hlt
          have hxm := List.mem_of_getElem? gx
          have hts := take_snoc gx
          rcases hq.out with ⟨-, h0, -, -⟩ | ⟨b, cap', sp, hv', hHo, hF, hq1, hq2, hq3, hq4⟩
          · omega
          injection hv' with hv1 hv2 hv3
          subst hv1
          subst hHo
          have hlb := hlk _ (List.mem_append_right _ (List.mem_singleton.2 rfl))
          have hld := ldV_own (F := F) (H := (b1, .cells #[.slice a1 ts.length c1, .slice a2 xs.length c2] 25 (0, 0)) :: (Hn ++ [(b, .cells (strs (xs.map (·.id)) ++ sp).toArray 9 (0, 0))])) (b := b) (m := i) (c := (strs (xs.map (·.id)) ++ sp).toArray) (T := 9) (fz := (0, 0)) hF hlb (by simp [strs]; omega)
          have hget : (strs (xs.map (·.id)) ++ sp).toArray.toList.getD i undef = .string (bs (xs.getD i nilC).id) := by
            rw [List.toList_toArray, List.getD_eq_getElem?_getD, List.getElem?_append_left (by simpa [strs] using hlt), List.getElem?_map, List.getElem?_map, gx]; rfl
          rw [hget] at hld
          generalize xs.getD i nilC = t at *
          simp (disch := first | assumption | exact Ne.symm (by assumption) | omega) only [hF1, hd, Nat.mul_one, Nat.zero_add, ↓ZD, ZU, ne_eq, Zaa, Zab, false_implies, Zac, Zad, Zae, Zaf, Zag, Zah, Zai, Zaj, Zak, Zal, Zam, Zan, Zao, Zap, Zaq, Zar, Zas, Zat, Zau, Zav, Zaw, Zax, Zay, Zaz, Za0, Za1, decide_true, decide_false, beq_self_eq_true, cond_true, cond_false, if_false, if_true, reduceIte, reduceCtorEq, not_true_eq_false, not_false_eq_true, true_and, and_true, forall_const, false_and, and_false, implies_true, Za2, Za3, Za4, Za5]
          refine conj.of (by omega) ?_
          simp (disch := first | assumption | exact Ne.symm (by assumption) | omega) only [hF1, hd, Nat.mul_one, Nat.zero_add, Int.toNat_natCast, ↓hld, ↓ZD, ZU, ne_eq, Zaa, Zab, false_implies, Zac, Zad, Zae, Zaf, Zag, Zah, Zai, Zaj, Zak, Zal, Zam, Zan, Zao, Zap, Zaq, Zar, Zas, Zat, Zau, Zav, Zaw, Zax, Zay, Zaz, Za0, Za1, decide_true, decide_false, beq_self_eq_true, cond_true, cond_false, if_false, if_true, reduceIte, reduceCtorEq, not_true_eq_false, not_false_eq_true, true_and, and_true, forall_const, false_and, and_false, implies_true, Za2, Za3, Za4, Za5]
          refine CallE.news (hgr.up le_up) ?_
          rintro v6 H6 ⟨b6, rfl, rfl, hF6⟩ - hd6 -
          have hb6 := rd_last hF6 hd6
          simp (disch := first | assumption | exact Ne.symm (by assumption) | omega) only [hF1, hF6, ↓ZD, ZU, ne_eq, Zaa, Zab, false_implies, Zac, Zad, Zae, Zaf, Zag, Zah, Zai, Zaj, Zak, Zal, Zam, Zan, Zao, Zap, Zaq, Zar, Zas, Zat, Zau, Zav, Zaw, Zax, Zay, Zaz, Za0, Za1, decide_true, decide_false, beq_self_eq_true, cond_true, cond_false, if_false, if_true, reduceIte, reduceCtorEq, not_true_eq_false, not_false_eq_true, true_and, and_true, forall_const, false_and, and_false, implies_true, Za2, Za3, Za4, Za5]
          refine CallE.pureH (hlA b6 _ hb6 t.id) ?_
          simp (disch := first | assumption | exact Ne.symm (by assumption) | omega) only [hF1, hF6, ↓ZD, ZU, ne_eq, Zaa, Zab, false_implies, Zac, Zad, Zae, Zaf, Zag, Zah, Zai, Zaj, Zak, Zal, Zam, Zan, Zao, Zap, Zaq, Zar, Zas, Zat, Zau, Zav, Zaw, Zax, Zay, Zaz, Za0, Za1, decide_true, decide_false, beq_self_eq_true, cond_true, cond_false, if_false, if_true, reduceIte, reduceCtorEq, not_true_eq_false, not_false_eq_true, true_and, and_true, forall_const, false_and, and_false, implies_true, Za2, Za3, Za4, Za5]
          refine ⟨fun hx => ?_, fun hx => ?_⟩
          · rw [← hR, if_pos (List.any_eq_true.2 ⟨t, hxm, hx⟩)]
          · refine invK.on (i + 1) ⟨by omega, by rw [hts, List.any_append, hbad]; simp [hx]⟩ (by omega) (by (simp only [Le_nil, Le_cons]; simp (disch := first | assumption | exact Ne.symm (by assumption) | omega) only [↓ZD, ZU, ne_eq, Zaa, Zab, false_implies, Zac, Zad, Zae, Zaf, Zag, Zah, Zai, Zaj, Zak, Zal, Zam, Zan, Zao, Zap, Zaq, Zar, Zas, Zat, Zau, Zav, Zaw, Zax, Zay, Zaz, Za0, Za1, decide_true, decide_false, beq_self_eq_true, cond_true, cond_false, if_false, if_true, reduceIte, reduceCtorEq, not_true_eq_false, not_false_eq_true, true_and, and_true, forall_const, false_and, and_false, implies_true, Za2, Za3, Za4, Za5]; try trivial)) ⟨by simp (disch := first | assumption | exact Ne.symm (by assumption) | omega) only [↓ZD, ZU, ne_eq, Zaa, Zab, false_implies, Zac, Zad, Zae, Zaf, Zag, Zah, Zai, Zaj, Zak, Zal, Zam, Zan, Zao, Zap, Zaq, Zar, Zas, Zat, Zau, Zav, Zaw, Zax, Zay, Zaz, Za0, Za1, decide_true, decide_false, beq_self_eq_true, cond_true, cond_false, if_false, if_true, reduceIte, reduceCtorEq, not_true_eq_false, not_false_eq_true, true_and, and_true, forall_const, false_and, and_false, implies_true, Za2, Za3, Za4, Za5], HLe.of fun e he => ?_⟩
            have := lk_ext (B := [(b6, .cells #[.slice a1 ts.length c1, .slice a2 xs.length c2] 25 (0, 0))]) hlk e he
            simpa only [List.cons_append] using this
        · have hd : decide ((i : Int) < (xs.length : Int)) = false := by simp; omega
          obtain rfl : i = xs.length := by omega
          rw [List.take_length] at hbad
          rw [if_neg (by rw [hbad]; simp)] at hR
          simp (disch := first | assumption | exact Ne.symm (by assumption) | omega) only [hF1, hd, ↓ZD, ZU, ne_eq, Zaa, Zab, false_implies, Zac, Zad, Zae, Zaf, Zag, Zah, Zai, Zaj, Zak, Zal, Zam, Zan, Zao, Zap, Zaq, Zar, Zas, Zat, Zau, Zav, Zaw, Zax, Zay, Zaz, Za0, Za1, decide_true, decide_false, beq_self_eq_true, cond_true, cond_false, if_false, if_true, reduceIte, reduceCtorEq, not_true_eq_false, not_false_eq_true, true_and, and_true, forall_const, false_and, and_false, implies_true, Za2, Za3, Za4, Za5]
          rw [hR]
end Go.Proofs.YtnnieekbklmgdaaDoor
