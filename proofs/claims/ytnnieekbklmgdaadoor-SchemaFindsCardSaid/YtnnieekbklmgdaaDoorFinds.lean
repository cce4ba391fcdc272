/- The law SchemaFinds returns true whatever it is given, and what it was given reads behind the call as it read before. Condition: none beyond the given row's own. -/
import Derived.Test.YtnnieekbklmgdaaDoorRows
import Derived.WalkKit
import Derived.ProofKit
import Derived.OpenShut
import Derived.ShutString
import Derived.ChangeOld
import Derived.Below
import Derived.Carry
import Derived.Lay
import Derived.MakeChecks
import Derived.SevenTiedAt
import Derived.Stop.Joined
import Derived.Test.YtnnieekbklmgdaaDoorTie
import Derived.Test.YtnnieekbklmgdaaDoorCards
import Derived.Test.YtnnieekbklmgdaaDoorLaw
import Derived.Test.YtnnieekbklmgdaaDoorSyP
namespace Go.Proofs.YtnnieekbklmgdaaDoor
open Go Go.Eng
open Int renaming reduceEq → Zaa, reduceToNat → Zaw, reduceLE → Zax, reduceLT → Zay, reduceAdd → Zaz, reduceSub → Za0, reduceNeg → Za1, reducePow → Za3, reduceNegSucc → Za5
open UInt8 renaming reduceOfNat → Zab
open Go.Eng renaming subG → Zac, lit → Zad, isPar → Zae, numb → Zaf, Wf → Zag, resV → Zah, oneCell → Zai, isB → Zaj, asB → Zak
open List renaming mapM_cons → Zal, mapM_nil → Zam
open Go.Value renaming cells → Zan
open Nat renaming reduceAdd → Zao, reduceMul → Zap, reduceMod → Zaq, reduceDiv → Zar, reduceEqDiff → Zas, reduceBEq → Zat, reduceLeDiff → Zau, reduceSub → Zav, reducePow → Za2, reduceLT → Za4
set_option linter.unusedSimpArgs false
set_option linter.unusedVariables false
set_option maxRecDepth 20000

theorem look_len {F : Base} {H : Hp} {a : Option Addr} {n len c o L : Nat} {r : Int} {cs : List Value} (ho : o + 1 ≤ n) {ob1 ob2 ob3 ob4 : Prop} {p p2 v : Value} {m : Int} (e1 : ixSV n (.slice a len c) (.int .i64 r) = some (ob1, p)) (e2 : addV o p = some (ob2, p2))
    (e3 : ldV F H 1 false p2 = some (ob3, v)) (e4 : lenSlV v = some (ob4, .int .i64 m)) (i : Nat) (hr : r = i) (hi : i < len) (hcl : Cl F a n i cs) (hv : ∃ ra ql, cs.getD o undef = .slice ra L ql) : ob1 ∧ ob2 ∧ ob3 ∧ ob4 ∧ m = L := by
  subst hr
  obtain ⟨b, off, rfl, -, hla⟩ := hcl.all
  obtain ⟨ra, ql, hv⟩ := hv
  rw [ixSV_of] at e1
  simp only [Option.some.injEq, Prod.mk.injEq] at e1
  obtain ⟨rfl, rfl⟩ := e1
  rw [addV_of] at e2
  simp only [Option.some.injEq, Prod.mk.injEq] at e2
  obtain ⟨rfl, rfl⟩ := e2
  rw [Int.toNat_natCast, hla o ho, hv] at e3
  simp only [Option.some.injEq, Prod.mk.injEq] at e3
  obtain ⟨rfl, rfl⟩ := e3
  rw [lenSlV_of] at e4
  simp only [Option.some.injEq, Prod.mk.injEq, Value.int.injEq, true_and] at e4
  obtain ⟨rfl, rfl⟩ := e4
  exact ⟨⟨by omega, by omega⟩, trivial, trivial, trivial, rfl⟩
theorem pre_take {α β : Type} (f : α → List β) (l : List α) (i : Nat) : (l.take i).flatMap f <+: l.flatMap f := by
  refine ⟨(l.drop i).flatMap f, ?_⟩
  rw [← List.flatMap_append, List.take_append_drop]
theorem pre_at {α : Type} {L M : List α} {e : α} (h : L ++ [e] <+: M) : M[L.length]? = some e := by
  obtain ⟨r, rfl⟩ := h
  simp
theorem cellsV_get {l : List Env} {k : Nat} {e : Env} (h : l[k]? = some e) (sp : List Value) : (cellsV l ++ sp).getD (k * 3) undef = .string (bs e.1) ∧ (cellsV l ++ sp).getD (k * 3 + 1) undef = .string (bs e.2.1) ∧ (cellsV l ++ sp).getD (k * 3 + 2) undef = .string (bs e.2.2) := by
  induction l generalizing k with
  | nil => cases h
  | cons x l ih =>
    rcases k with _ | k
    · simp only [List.getElem?_cons_zero, Option.some.injEq] at h
      subst h
      unfold cellsV
      rw [List.flatMap_cons]
      exact ⟨rfl, rfl, rfl⟩
    · rw [List.getElem?_cons_succ] at h
      obtain ⟨h1, h2, h3⟩ := ih h
      have e : cellsV (x :: l) ++ sp = .string (bs x.1) :: .string (bs x.2.1) :: .string (bs x.2.2) :: (cellsV l ++ sp) := by unfold cellsV; rw [List.flatMap_cons]; rfl
      rw [e, show (k + 1) * 3 = k * 3 + 1 + 1 + 1 by omega]
      exact ⟨h1, h2, h3⟩
theorem finds_law (F : Base) (hg : HasM F) {ch : List Value} {s : Sch} (hs : RepH F ch s) (nm : Str) : PureV Tryd.prog F 4 #[.agg ch.toArray, .string (bs nm)] (.bool true) := by
  have ha := awake_pure F hg
  have hz := sized_pure F hs
  obtain ⟨cs, hcs, hty⟩ := type_pure F hs nm
  obtain ⟨ds, hds, hac⟩ := action_pure F hs nm
  have hrt := rtype_pure F hs nm
  have hra := raction_pure F hs nm
  have henv : szd s = true → _ := fun h => envs_does F hs (Nat.le_trans (szd_ok h).2.1 (by omega))
  have hsz : szd s = true → (envs s).length ≤ 1000 := fun h => (szd_ok h).2.1
  cases hs with
  | mk a1 a2 c1 c2 ts xs g1 g2 hc1 hc2 hl1 hl2 h1 h2 =>
    have hf1 : isFst _ ts.length (tyI ⟨ts, xs⟩ nm) := idxI_isFst (fun t : ET => t.name == nm) nilE ts
    have hf2 : isFst _ xs.length (acI ⟨ts, xs⟩ nm) := idxI_isFst (fun t : AC => t.id == nm) nilC xs
    have hE : 0 ≤ tyI ⟨ts, xs⟩ nm → ∃ i : Nat, tyI ⟨ts, xs⟩ nm = i ∧ i < ts.length ∧ (ts.getD i nilE).name = nm ∧ (if tyI ⟨ts, xs⟩ nm < 0 then nilE else ts.getD (tyI ⟨ts, xs⟩ nm).toNat nilE) = ts.getD i nilE := fun h => by
      obtain ⟨i, hi⟩ : ∃ i : Nat, tyI ⟨ts, xs⟩ nm = i := ⟨(tyI ⟨ts, xs⟩ nm).toNat, by omega⟩
      rw [hi] at hf1
      obtain ⟨k1, k2⟩ := isFst_at hf1
      refine ⟨i, hi, k1, by simpa using k2, ?_⟩
      rw [hi, if_neg (by omega), Int.toNat_natCast]
    have hC : 0 ≤ acI ⟨ts, xs⟩ nm → ∃ i : Nat, acI ⟨ts, xs⟩ nm = i ∧ i < xs.length ∧ (xs.getD i nilC).id = nm ∧ (if acI ⟨ts, xs⟩ nm < 0 then nilC else xs.getD (acI ⟨ts, xs⟩ nm).toNat nilC) = xs.getD i nilC := fun h => by
      obtain ⟨i, hi⟩ : ∃ i : Nat, acI ⟨ts, xs⟩ nm = i := ⟨(acI ⟨ts, xs⟩ nm).toNat, by omega⟩
      rw [hi] at hf2
      obtain ⟨k1, k2⟩ := isFst_at hf2
      refine ⟨i, hi, k1, by simpa using k2, ?_⟩
      rw [hi, if_neg (by omega), Int.toNat_natCast]
    simp only at hcs hds
    generalize (if tyI ⟨ts, xs⟩ nm < 0 then nilE else ts.getD (tyI ⟨ts, xs⟩ nm).toNat nilE) = E at *
    generalize (if acI ⟨ts, xs⟩ nm < 0 then nilC else xs.getD (acI ⟨ts, xs⟩ nm).toNat nilC) = C at *
    generalize tyI ⟨ts, xs⟩ nm = r1 at *
    generalize acI ⟨ts, xs⟩ nm = r2 at *
    obtain ⟨_, _, rfl, -, ⟨w1, q1, rfl, -⟩, ⟨w2, q2, _, rfl, -⟩⟩ := hcs
    obtain ⟨_, _, _, _, rfl, -, ⟨w3, q3, rfl, -⟩, ⟨w4, q4, rfl, -⟩, ⟨w5, q5, rfl, -⟩, ⟨w6, q6, _, rfl, -⟩⟩ := hds
    refine pureV_of_svc mixed Tryd.func4 low4 (Nat.le_of_ble_eq_true rfl) (fun w0 => ?_)
    simp (disch := first | assumption | exact Ne.symm (by assumption) | omega) only [fu4, ↓ZD, ZU, ne_eq, Zaa, Zab, false_implies, Zac, Zad, Zae, Zaf, Zag, Zah, Zai, Zaj, Zak, Zal, Zam, Zan, Zao, Zap, Zaq, Zar, Zas, Zat, Zau, Zav, Zaw, Zax, Zay, Zaz, Za0, Za1, decide_true, decide_false, beq_self_eq_true, cond_true, cond_false, if_false, if_true, reduceIte, reduceCtorEq, not_true_eq_false, not_false_eq_true, true_and, and_true, forall_const, false_and, and_false, implies_true, Za2, Za3, Za4, Za5]
    refine NewB.of fun b1 hb1 hF1 => ?_
    simp (disch := first | assumption | exact Ne.symm (by assumption) | omega) only [hF1, ↓ZD, ZU, ne_eq, Zaa, Zab, false_implies, Zac, Zad, Zae, Zaf, Zag, Zah, Zai, Zaj, Zak, Zal, Zam, Zan, Zao, Zap, Zaq, Zar, Zas, Zat, Zau, Zav, Zaw, Zax, Zay, Zaz, Za0, Za1, decide_true, decide_false, beq_self_eq_true, cond_true, cond_false, if_false, if_true, reduceIte, reduceCtorEq, not_true_eq_false, not_false_eq_true, true_and, and_true, forall_const, false_and, and_false, implies_true, Za2, Za3, Za4, Za5]
    refine CallE.pure ha ?_
    simp (disch := first | assumption | exact Ne.symm (by assumption) | omega) only [hF1, ↓ZD, ZU, ne_eq, Zaa, Zab, false_implies, Zac, Zad, Zae, Zaf, Zag, Zah, Zai, Zaj, Zak, Zal, Zam, Zan, Zao, Zap, Zaq, Zar, Zas, Zat, Zau, Zav, Zaw, Zax, Zay, Zaz, Za0, Za1, decide_true, decide_false, beq_self_eq_true, cond_true, cond_false, if_false, if_true, reduceIte, reduceCtorEq, not_true_eq_false, not_false_eq_true, true_and, and_true, forall_const, false_and, and_false, implies_true, Za2, Za3, Za4, Za5]
    refine CallE.pure hz ?_
    simp (disch := first | assumption | exact Ne.symm (by assumption) | omega) only [hF1, ↓ZD, ZU, ne_eq, Zaa, Zab, false_implies, Zac, Zad, Zae, Zaf, Zag, Zah, Zai, Zaj, Zak, Zal, Zam, Zan, Zao, Zap, Zaq, Zar, Zas, Zat, Zau, Zav, Zaw, Zax, Zay, Zaz, Za0, Za1, decide_true, decide_false, beq_self_eq_true, cond_true, cond_false, if_false, if_true, reduceIte, reduceCtorEq, not_true_eq_false, not_false_eq_true, true_and, and_true, forall_const, false_and, and_false, implies_true, Za2, Za3, Za4, Za5]
    intro h
    have h : szd ⟨ts, xs⟩ = true := by simpa using h
    have henv := henv h
    have hsz := hsz h
    refine CallE.pure hty ?_
    simp (disch := first | assumption | exact Ne.symm (by assumption) | omega) only [hF1, ↓ZD, ZU, ne_eq, Zaa, Zab, false_implies, Zac, Zad, Zae, Zaf, Zag, Zah, Zai, Zaj, Zak, Zal, Zam, Zan, Zao, Zap, Zaq, Zar, Zas, Zat, Zau, Zav, Zaw, Zax, Zay, Zaz, Za0, Za1, decide_true, decide_false, beq_self_eq_true, cond_true, cond_false, if_false, if_true, reduceIte, reduceCtorEq, not_true_eq_false, not_false_eq_true, true_and, and_true, forall_const, false_and, and_false, implies_true, Za2, Za3, Za4, Za5]
    refine NewB.of fun b2 hb2 hF2 => ?_
    simp only [List.forall_mem_cons] at hb2
    obtain ⟨h21, -⟩ := hb2
    simp (disch := first | assumption | exact Ne.symm (by assumption) | omega) only [hF1, hF2, ↓ZD, ZU, ne_eq, Zaa, Zab, false_implies, Zac, Zad, Zae, Zaf, Zag, Zah, Zai, Zaj, Zak, Zal, Zam, Zan, Zao, Zap, Zaq, Zar, Zas, Zat, Zau, Zav, Zaw, Zax, Zay, Zaz, Za0, Za1, decide_true, decide_false, beq_self_eq_true, cond_true, cond_false, if_false, if_true, reduceIte, reduceCtorEq, not_true_eq_false, not_false_eq_true, true_and, and_true, forall_const, false_and, and_false, implies_true, Za2, Za3, Za4, Za5]
    refine CallE.pure hac ?_
    simp (disch := first | assumption | exact Ne.symm (by assumption) | omega) only [hF1, hF2, ↓ZD, ZU, ne_eq, Zaa, Zab, false_implies, Zac, Zad, Zae, Zaf, Zag, Zah, Zai, Zaj, Zak, Zal, Zam, Zan, Zao, Zap, Zaq, Zar, Zas, Zat, Zau, Zav, Zaw, Zax, Zay, Zaz, Za0, Za1, decide_true, decide_false, beq_self_eq_true, cond_true, cond_false, if_false, if_true, reduceIte, reduceCtorEq, not_true_eq_false, not_false_eq_true, true_and, and_true, forall_const, false_and, and_false, implies_true, Za2, Za3, Za4, Za5]
    refine NewB.of fun b3 hb3 hF3 => ?_
    simp only [List.forall_mem_cons] at hb3
    obtain ⟨h32, h31, -⟩ := hb3
    simp (disch := first | assumption | exact Ne.symm (by assumption) | omega) only [hF1, hF2, hF3, ↓ZD, ZU, ne_eq, Zaa, Zab, false_implies, Zac, Zad, Zae, Zaf, Zag, Zah, Zai, Zaj, Zak, Zal, Zam, Zan, Zao, Zap, Zaq, Zar, Zas, Zat, Zau, Zav, Zaw, Zax, Zay, Zaz, Za0, Za1, decide_true, decide_false, beq_self_eq_true, cond_true, cond_false, if_false, if_true, reduceIte, reduceCtorEq, not_true_eq_false, not_false_eq_true, true_and, and_true, forall_const, false_and, and_false, implies_true, Za2, Za3, Za4, Za5]
    refine CallE.pure hrt ?_
    simp (disch := first | assumption | exact Ne.symm (by assumption) | omega) only [hF1, hF2, hF3, ↓ZD, ZU, ne_eq, Zaa, Zab, false_implies, Zac, Zad, Zae, Zaf, Zag, Zah, Zai, Zaj, Zak, Zal, Zam, Zan, Zao, Zap, Zaq, Zar, Zas, Zat, Zau, Zav, Zaw, Zax, Zay, Zaz, Za0, Za1, decide_true, decide_false, beq_self_eq_true, cond_true, cond_false, if_false, if_true, reduceIte, reduceCtorEq, not_true_eq_false, not_false_eq_true, true_and, and_true, forall_const, false_and, and_false, implies_true, Za2, Za3, Za4, Za5]
    refine CallE.pure hra ?_
    let HH : Hp := [(b3, .cells #[.string (bs C.id), .slice w3 C.inn.length q3, .slice w4 C.prs.length q4, .slice w5 C.res.length q5, .slice w6 C.ctx.length q6] 37 (0, 0)), (b2, .cells #[.string (bs E.name), .slice w1 E.inn.length q1, .slice w2 E.attrs.length q2] 33 (0, 0)), (b1, .cells #[.slice a1 ts.length c1, .slice a2 xs.length c2] 25 (0, 0))]
    obtain ⟨o1, p1, e1⟩ := ixSV_ex 3 a1 ts.length c1 .i64 r1
    obtain ⟨o2, p2, e2⟩ := addV_ex 1 p1
    obtain ⟨o3, v3, e3⟩ := ldV_ex F HH 1 p2
    obtain ⟨o4, m4, e4⟩ := lenSlV_ex v3
    obtain ⟨o5, p5, e5⟩ := addV_ex 2 p1
    obtain ⟨o6, v6, e6⟩ := ldV_ex F HH 1 p5
    obtain ⟨o7, m7, e7⟩ := lenSlV_ex v6
    obtain ⟨u1, x1, k1⟩ := ixSV_ex 5 a2 xs.length c2 .i64 r2
    obtain ⟨u2, x2, k2⟩ := addV_ex 2 x1
    obtain ⟨u3, y3, k3⟩ := ldV_ex F HH 1 x2
    obtain ⟨u4, n4, k4⟩ := lenSlV_ex y3
    obtain ⟨u5, x5, k5⟩ := addV_ex 3 x1
    obtain ⟨u6, y6, k6⟩ := ldV_ex F HH 1 x5
    obtain ⟨u7, n7, k7⟩ := lenSlV_ex y6
    have fE : 0 ≤ r1 → (o1 ∧ o2 ∧ o3 ∧ o4 ∧ m4 = (E.inn.length : Int)) ∧ (o1 ∧ o5 ∧ o6 ∧ o7 ∧ m7 = (E.attrs.length : Int)) ∧ E.name = nm := fun h => by
      obtain ⟨i, g1', g2', g3', g4'⟩ := hE h
      obtain ⟨hcl, _, _, hform, _, ⟨_, _, hv1, _⟩, ⟨_, _, _, hv2, _⟩⟩ := h1 i _ (getE g2')
      rw [hform] at hcl
      rw [← g4'] at hcl hv1 hv2 g3'
      exact ⟨look_len (by omega) e1 e2 e3 e4 i g1' g2' hcl ⟨_, _, hv1⟩, look_len (by omega) e1 e5 e6 e7 i g1' g2' hcl ⟨_, _, hv2⟩, g3'⟩
    have fC : 0 ≤ r2 → (u1 ∧ u2 ∧ u3 ∧ u4 ∧ n4 = (C.prs.length : Int)) ∧ (u1 ∧ u5 ∧ u6 ∧ u7 ∧ n7 = (C.res.length : Int)) ∧ C.id = nm := fun h => by
      obtain ⟨i, g1', g2', g3', g4'⟩ := hC h
      obtain ⟨hcl, _, _, _, _, hform, _, _, ⟨_, _, hv1, _⟩, ⟨_, _, hv2, _⟩, _⟩ := h2 i _ (getC g2')
      rw [hform] at hcl
      rw [← g4'] at hcl hv1 hv2 g3'
      exact ⟨look_len (by omega) k1 k2 k3 k4 i g1' g2' hcl ⟨_, _, hv1⟩, look_len (by omega) k1 k5 k6 k7 i g1' g2' hcl ⟨_, _, hv2⟩, g3'⟩
    simp only [HH] at e3 e6 k3 k6
    clear HH
    have ht1 : ∀ {q : Prop} {x : Prop}, (0 ≤ r1 → x) → (q ∧ decide (0 ≤ r1) = true → x) := fun h hh => h (of_decide_eq_true hh.2)
    simp (disch := first | assumption | exact Ne.symm (by assumption) | omega) only [hF1, hF2, hF3, bne_self_eq_false, e1, e2, e3, e4, e5, e6, e7, k1, k2, k3, k4, k5, k6, k7, ↓ZD, ZU, ne_eq, Zaa, Zab, false_implies, Zac, Zad, Zae, Zaf, Zag, Zah, Zai, Zaj, Zak, Zal, Zam, Zan, Zao, Zap, Zaq, Zar, Zas, Zat, Zau, Zav, Zaw, Zax, Zay, Zaz, Za0, Za1, decide_true, decide_false, beq_self_eq_true, cond_true, cond_false, if_false, if_true, reduceIte, reduceCtorEq, not_true_eq_false, not_false_eq_true, true_and, and_true, forall_const, false_and, and_false, implies_true, Za2, Za3, Za4, Za5]
    refine conj.of (fun h => by
      obtain ⟨⟨j1, j2, j3, j4, -⟩, ⟨-, j5, j6, j7, -⟩, -⟩ := fE (of_decide_eq_true h.2)
      assumption) ?_
    simp (disch := first | assumption | exact Ne.symm (by assumption) | omega) only [hF1, hF2, hF3, bne_self_eq_false, e1, e2, e3, e4, e5, e6, e7, k1, k2, k3, k4, k5, k6, k7, ↓ZD, ZU, ne_eq, Zaa, Zab, false_implies, Zac, Zad, Zae, Zaf, Zag, Zah, Zai, Zaj, Zak, Zal, Zam, Zan, Zao, Zap, Zaq, Zar, Zas, Zat, Zau, Zav, Zaw, Zax, Zay, Zaz, Za0, Za1, decide_true, decide_false, beq_self_eq_true, cond_true, cond_false, if_false, if_true, reduceIte, reduceCtorEq, not_true_eq_false, not_false_eq_true, true_and, and_true, forall_const, false_and, and_false, implies_true, Za2, Za3, Za4, Za5]
    refine conj.of (fun h => by
      obtain ⟨⟨j1, j2, j3, j4, -⟩, ⟨-, j5, j6, j7, -⟩, -⟩ := fE (of_decide_eq_true h.2)
      assumption) ?_
    simp (disch := first | assumption | exact Ne.symm (by assumption) | omega) only [hF1, hF2, hF3, bne_self_eq_false, e1, e2, e3, e4, e5, e6, e7, k1, k2, k3, k4, k5, k6, k7, ↓ZD, ZU, ne_eq, Zaa, Zab, false_implies, Zac, Zad, Zae, Zaf, Zag, Zah, Zai, Zaj, Zak, Zal, Zam, Zan, Zao, Zap, Zaq, Zar, Zas, Zat, Zau, Zav, Zaw, Zax, Zay, Zaz, Za0, Za1, decide_true, decide_false, beq_self_eq_true, cond_true, cond_false, if_false, if_true, reduceIte, reduceCtorEq, not_true_eq_false, not_false_eq_true, true_and, and_true, forall_const, false_and, and_false, implies_true, Za2, Za3, Za4, Za5]
    refine conj.of (fun h => by
      obtain ⟨⟨j1, j2, j3, j4, -⟩, ⟨-, j5, j6, j7, -⟩, -⟩ := fE (of_decide_eq_true h.2)
      assumption) ?_
    simp (disch := first | assumption | exact Ne.symm (by assumption) | omega) only [hF1, hF2, hF3, bne_self_eq_false, e1, e2, e3, e4, e5, e6, e7, k1, k2, k3, k4, k5, k6, k7, ↓ZD, ZU, ne_eq, Zaa, Zab, false_implies, Zac, Zad, Zae, Zaf, Zag, Zah, Zai, Zaj, Zak, Zal, Zam, Zan, Zao, Zap, Zaq, Zar, Zas, Zat, Zau, Zav, Zaw, Zax, Zay, Zaz, Za0, Za1, decide_true, decide_false, beq_self_eq_true, cond_true, cond_false, if_false, if_true, reduceIte, reduceCtorEq, not_true_eq_false, not_false_eq_true, true_and, and_true, forall_const, false_and, and_false, implies_true, Za2, Za3, Za4, Za5]
    refine conj.of (fun h => by
      obtain ⟨⟨j1, j2, j3, j4, -⟩, ⟨-, j5, j6, j7, -⟩, -⟩ := fE (of_decide_eq_true h.2)
      assumption) ?_
    simp (disch := first | assumption | exact Ne.symm (by assumption) | omega) only [hF1, hF2, hF3, bne_self_eq_false, e1, e2, e3, e4, e5, e6, e7, k1, k2, k3, k4, k5, k6, k7, ↓ZD, ZU, ne_eq, Zaa, Zab, false_implies, Zac, Zad, Zae, Zaf, Zag, Zah, Zai, Zaj, Zak, Zal, Zam, Zan, Zao, Zap, Zaq, Zar, Zas, Zat, Zau, Zav, Zaw, Zax, Zay, Zaz, Za0, Za1, decide_true, decide_false, beq_self_eq_true, cond_true, cond_false, if_false, if_true, reduceIte, reduceCtorEq, not_true_eq_false, not_false_eq_true, true_and, and_true, forall_const, false_and, and_false, implies_true, Za2, Za3, Za4, Za5]
    refine conj.of (fun h => by
      obtain ⟨⟨j1, j2, j3, j4, -⟩, ⟨-, j5, j6, j7, -⟩, -⟩ := fE (of_decide_eq_true h.2)
      assumption) ?_
    simp (disch := first | assumption | exact Ne.symm (by assumption) | omega) only [hF1, hF2, hF3, bne_self_eq_false, e1, e2, e3, e4, e5, e6, e7, k1, k2, k3, k4, k5, k6, k7, ↓ZD, ZU, ne_eq, Zaa, Zab, false_implies, Zac, Zad, Zae, Zaf, Zag, Zah, Zai, Zaj, Zak, Zal, Zam, Zan, Zao, Zap, Zaq, Zar, Zas, Zat, Zau, Zav, Zaw, Zax, Zay, Zaz, Za0, Za1, decide_true, decide_false, beq_self_eq_true, cond_true, cond_false, if_false, if_true, reduceIte, reduceCtorEq, not_true_eq_false, not_false_eq_true, true_and, and_true, forall_const, false_and, and_false, implies_true, Za2, Za3, Za4, Za5]
    refine conj.of (fun h => by
      obtain ⟨⟨j1, j2, j3, j4, -⟩, ⟨-, j5, j6, j7, -⟩, -⟩ := fE (of_decide_eq_true h.2)
      assumption) ?_
    simp (disch := first | assumption | exact Ne.symm (by assumption) | omega) only [hF1, hF2, hF3, bne_self_eq_false, e1, e2, e3, e4, e5, e6, e7, k1, k2, k3, k4, k5, k6, k7, ↓ZD, ZU, ne_eq, Zaa, Zab, false_implies, Zac, Zad, Zae, Zaf, Zag, Zah, Zai, Zaj, Zak, Zal, Zam, Zan, Zao, Zap, Zaq, Zar, Zas, Zat, Zau, Zav, Zaw, Zax, Zay, Zaz, Za0, Za1, decide_true, decide_false, beq_self_eq_true, cond_true, cond_false, if_false, if_true, reduceIte, reduceCtorEq, not_true_eq_false, not_false_eq_true, true_and, and_true, forall_const, false_and, and_false, implies_true, Za2, Za3, Za4, Za5]
    refine conj.of (fun h => by
      obtain ⟨⟨j1, j2, j3, j4, -⟩, ⟨-, j5, j6, j7, -⟩, -⟩ := fE (of_decide_eq_true h.2)
      assumption) ?_
    simp (disch := first | assumption | exact Ne.symm (by assumption) | omega) only [hF1, hF2, hF3, bne_self_eq_false, e1, e2, e3, e4, e5, e6, e7, k1, k2, k3, k4, k5, k6, k7, ↓ZD, ZU, ne_eq, Zaa, Zab, false_implies, Zac, Zad, Zae, Zaf, Zag, Zah, Zai, Zaj, Zak, Zal, Zam, Zan, Zao, Zap, Zaq, Zar, Zas, Zat, Zau, Zav, Zaw, Zax, Zay, Zaz, Za0, Za1, decide_true, decide_false, beq_self_eq_true, cond_true, cond_false, if_false, if_true, reduceIte, reduceCtorEq, not_true_eq_false, not_false_eq_true, true_and, and_true, forall_const, false_and, and_false, implies_true, Za2, Za3, Za4, Za5]
    refine conj.of (fun h => by
      obtain ⟨⟨j1, j2, j3, j4, -⟩, ⟨-, j5, j6, j7, -⟩, -⟩ := fE (of_decide_eq_true h.2)
      assumption) ?_
    simp (disch := first | assumption | exact Ne.symm (by assumption) | omega) only [hF1, hF2, hF3, bne_self_eq_false, e1, e2, e3, e4, e5, e6, e7, k1, k2, k3, k4, k5, k6, k7, ↓ZD, ZU, ne_eq, Zaa, Zab, false_implies, Zac, Zad, Zae, Zaf, Zag, Zah, Zai, Zaj, Zak, Zal, Zam, Zan, Zao, Zap, Zaq, Zar, Zas, Zat, Zau, Zav, Zaw, Zax, Zay, Zaz, Za0, Za1, decide_true, decide_false, beq_self_eq_true, cond_true, cond_false, if_false, if_true, reduceIte, reduceCtorEq, not_true_eq_false, not_false_eq_true, true_and, and_true, forall_const, false_and, and_false, implies_true, Za2, Za3, Za4, Za5]
    refine conj.of (fun h => by
      obtain ⟨⟨j1, j2, j3, j4, -⟩, ⟨-, j5, j6, j7, -⟩, -⟩ := fC (of_decide_eq_true h.2.1)
      assumption) ?_
    simp (disch := first | assumption | exact Ne.symm (by assumption) | omega) only [hF1, hF2, hF3, bne_self_eq_false, e1, e2, e3, e4, e5, e6, e7, k1, k2, k3, k4, k5, k6, k7, ↓ZD, ZU, ne_eq, Zaa, Zab, false_implies, Zac, Zad, Zae, Zaf, Zag, Zah, Zai, Zaj, Zak, Zal, Zam, Zan, Zao, Zap, Zaq, Zar, Zas, Zat, Zau, Zav, Zaw, Zax, Zay, Zaz, Za0, Za1, decide_true, decide_false, beq_self_eq_true, cond_true, cond_false, if_false, if_true, reduceIte, reduceCtorEq, not_true_eq_false, not_false_eq_true, true_and, and_true, forall_const, false_and, and_false, implies_true, Za2, Za3, Za4, Za5]
    refine conj.of (fun h => by
      obtain ⟨⟨j1, j2, j3, j4, -⟩, ⟨-, j5, j6, j7, -⟩, -⟩ := fC (of_decide_eq_true h.2.1)
      assumption) ?_
    simp (disch := first | assumption | exact Ne.symm (by assumption) | omega) only [hF1, hF2, hF3, bne_self_eq_false, e1, e2, e3, e4, e5, e6, e7, k1, k2, k3, k4, k5, k6, k7, ↓ZD, ZU, ne_eq, Zaa, Zab, false_implies, Zac, Zad, Zae, Zaf, Zag, Zah, Zai, Zaj, Zak, Zal, Zam, Zan, Zao, Zap, Zaq, Zar, Zas, Zat, Zau, Zav, Zaw, Zax, Zay, Zaz, Za0, Za1, decide_true, decide_false, beq_self_eq_true, cond_true, cond_false, if_false, if_true, reduceIte, reduceCtorEq, not_true_eq_false, not_false_eq_true, true_and, and_true, forall_const, false_and, and_false, implies_true, Za2, Za3, Za4, Za5]
    refine conj.of (fun h => by
      obtain ⟨⟨j1, j2, j3, j4, -⟩, ⟨-, j5, j6, j7, -⟩, -⟩ := fC (of_decide_eq_true h.2.1)
      assumption) ?_
    simp (disch := first | assumption | exact Ne.symm (by assumption) | omega) only [hF1, hF2, hF3, bne_self_eq_false, e1, e2, e3, e4, e5, e6, e7, k1, k2, k3, k4, k5, k6, k7, ↓ZD, ZU, ne_eq, Zaa, Zab, false_implies, Zac, Zad, Zae, Zaf, Zag, Zah, Zai, Zaj, Zak, Zal, Zam, Zan, Zao, Zap, Zaq, Zar, Zas, Zat, Zau, Zav, Zaw, Zax, Zay, Zaz, Za0, Za1, decide_true, decide_false, beq_self_eq_true, cond_true, cond_false, if_false, if_true, reduceIte, reduceCtorEq, not_true_eq_false, not_false_eq_true, true_and, and_true, forall_const, false_and, and_false, implies_true, Za2, Za3, Za4, Za5]
    refine conj.of (fun h => by
      obtain ⟨⟨j1, j2, j3, j4, -⟩, ⟨-, j5, j6, j7, -⟩, -⟩ := fC (of_decide_eq_true h.2.1)
      assumption) ?_
    simp (disch := first | assumption | exact Ne.symm (by assumption) | omega) only [hF1, hF2, hF3, bne_self_eq_false, e1, e2, e3, e4, e5, e6, e7, k1, k2, k3, k4, k5, k6, k7, ↓ZD, ZU, ne_eq, Zaa, Zab, false_implies, Zac, Zad, Zae, Zaf, Zag, Zah, Zai, Zaj, Zak, Zal, Zam, Zan, Zao, Zap, Zaq, Zar, Zas, Zat, Zau, Zav, Zaw, Zax, Zay, Zaz, Za0, Za1, decide_true, decide_false, beq_self_eq_true, cond_true, cond_false, if_false, if_true, reduceIte, reduceCtorEq, not_true_eq_false, not_false_eq_true, true_and, and_true, forall_const, false_and, and_false, implies_true, Za2, Za3, Za4, Za5]
    refine conj.of (fun h => by
      obtain ⟨⟨j1, j2, j3, j4, -⟩, ⟨-, j5, j6, j7, -⟩, -⟩ := fC (of_decide_eq_true h.2.1)
      assumption) ?_
    simp (disch := first | assumption | exact Ne.symm (by assumption) | omega) only [hF1, hF2, hF3, bne_self_eq_false, e1, e2, e3, e4, e5, e6, e7, k1, k2, k3, k4, k5, k6, k7, ↓ZD, ZU, ne_eq, Zaa, Zab, false_implies, Zac, Zad, Zae, Zaf, Zag, Zah, Zai, Zaj, Zak, Zal, Zam, Zan, Zao, Zap, Zaq, Zar, Zas, Zat, Zau, Zav, Zaw, Zax, Zay, Zaz, Za0, Za1, decide_true, decide_false, beq_self_eq_true, cond_true, cond_false, if_false, if_true, reduceIte, reduceCtorEq, not_true_eq_false, not_false_eq_true, true_and, and_true, forall_const, false_and, and_false, implies_true, Za2, Za3, Za4, Za5]
    refine conj.of (fun h => by
      obtain ⟨⟨j1, j2, j3, j4, -⟩, ⟨-, j5, j6, j7, -⟩, -⟩ := fC (of_decide_eq_true h.2.1)
      assumption) ?_
    simp (disch := first | assumption | exact Ne.symm (by assumption) | omega) only [hF1, hF2, hF3, bne_self_eq_false, e1, e2, e3, e4, e5, e6, e7, k1, k2, k3, k4, k5, k6, k7, ↓ZD, ZU, ne_eq, Zaa, Zab, false_implies, Zac, Zad, Zae, Zaf, Zag, Zah, Zai, Zaj, Zak, Zal, Zam, Zan, Zao, Zap, Zaq, Zar, Zas, Zat, Zau, Zav, Zaw, Zax, Zay, Zaz, Za0, Za1, decide_true, decide_false, beq_self_eq_true, cond_true, cond_false, if_false, if_true, reduceIte, reduceCtorEq, not_true_eq_false, not_false_eq_true, true_and, and_true, forall_const, false_and, and_false, implies_true, Za2, Za3, Za4, Za5]
    refine conj.of (fun h => by
      obtain ⟨⟨j1, j2, j3, j4, -⟩, ⟨-, j5, j6, j7, -⟩, -⟩ := fC (of_decide_eq_true h.2.1)
      assumption) ?_
    simp (disch := first | assumption | exact Ne.symm (by assumption) | omega) only [hF1, hF2, hF3, bne_self_eq_false, e1, e2, e3, e4, e5, e6, e7, k1, k2, k3, k4, k5, k6, k7, ↓ZD, ZU, ne_eq, Zaa, Zab, false_implies, Zac, Zad, Zae, Zaf, Zag, Zah, Zai, Zaj, Zak, Zal, Zam, Zan, Zao, Zap, Zaq, Zar, Zas, Zat, Zau, Zav, Zaw, Zax, Zay, Zaz, Za0, Za1, decide_true, decide_false, beq_self_eq_true, cond_true, cond_false, if_false, if_true, reduceIte, reduceCtorEq, not_true_eq_false, not_false_eq_true, true_and, and_true, forall_const, false_and, and_false, implies_true, Za2, Za3, Za4, Za5]
    refine conj.of (fun h => by
      obtain ⟨⟨j1, j2, j3, j4, -⟩, ⟨-, j5, j6, j7, -⟩, -⟩ := fC (of_decide_eq_true h.2.1)
      assumption) ?_
    simp (disch := first | assumption | exact Ne.symm (by assumption) | omega) only [hF1, hF2, hF3, bne_self_eq_false, e1, e2, e3, e4, e5, e6, e7, k1, k2, k3, k4, k5, k6, k7, ↓ZD, ZU, ne_eq, Zaa, Zab, false_implies, Zac, Zad, Zae, Zaf, Zag, Zah, Zai, Zaj, Zak, Zal, Zam, Zan, Zao, Zap, Zaq, Zar, Zas, Zat, Zau, Zav, Zaw, Zax, Zay, Zaz, Za0, Za1, decide_true, decide_false, beq_self_eq_true, cond_true, cond_false, if_false, if_true, reduceIte, reduceCtorEq, not_true_eq_false, not_false_eq_true, true_and, and_true, forall_const, false_and, and_false, implies_true, Za2, Za3, Za4, Za5]
    refine ⟨fun hb => ?_, fun _ => ?_⟩
    · have z1 : (decide (0 ≤ r1) && (!E.name == nm || (E.inn.length : Int) != m4 || (E.attrs.length : Int) != m7)) = false := by
        by_cases hh : 0 ≤ r1
        · obtain ⟨⟨-, -, -, -, q1⟩, ⟨-, -, -, -, q2⟩, q3⟩ := fE hh
          rw [q1, q2, q3]; simp
        · simp [hh]
      have z2 : (decide (0 ≤ r2) && (!C.id == nm || (C.prs.length : Int) != n4 || (C.res.length : Int) != n7)) = false := by
        by_cases hh : 0 ≤ r2
        · obtain ⟨⟨-, -, -, -, q1⟩, ⟨-, -, -, -, q2⟩, q3⟩ := fC hh
          rw [q1, q2, q3]; simp
        · simp [hh]
      rw [z1, z2] at hb
      cases hb
    clear fE fC hE hC hf1 hf2 e1 e2 e3 e4 e5 e6 e7 k1 k2 k3 k4 k5 k6 k7 hty hac hrt hra
    refine CallE.news (henv.up le_up) ?_
    rintro v Ho hown - hd -
    have hd1 : ∀ e ∈ Ho, e.1 ≠ b1 := fun e he => hd _ (List.mem_cons_of_mem _ (List.mem_cons_of_mem _ List.mem_cons_self)) e he
    have hokh := Okh.lk (okh_own hown) hd
    generalize hM : envs ⟨ts, xs⟩ = M at *
    have hM' : M = xs.flatMap envsA := hM.symm
    simp (disch := first | assumption | exact Ne.symm (by assumption) | omega) only [hF1, hF2, hF3, ↓ZD, ZU, ne_eq, Zaa, Zab, false_implies, Zac, Zad, Zae, Zaf, Zag, Zah, Zai, Zaj, Zak, Zal, Zam, Zan, Zao, Zap, Zaq, Zar, Zas, Zat, Zau, Zav, Zaw, Zax, Zay, Zaz, Za0, Za1, decide_true, decide_false, beq_self_eq_true, cond_true, cond_false, if_false, if_true, reduceIte, reduceCtorEq, not_true_eq_false, not_false_eq_true, true_and, and_true, forall_const, false_and, and_false, implies_true, Za2, Za3, Za4, Za5]
    refine LoopL.inv (α := Nat) (fun i => i ≤ xs.length)
      (fun i => [(2, some (.pointer (some ⟨b1, 0, none⟩))), (13, some v), (14, some (.int .i64 ((xs.take i).flatMap envsA).length)), (15, some (.int .i64 i))])
      (fun i => (b1, .cells #[.slice a1 ts.length c1, .slice a2 xs.length c2] 25 (0, 0)) :: Ho) (fun i => xs.length - i) 0 (Nat.zero_le _) (by (simp only [Le_nil, Le_cons]; simp (disch := first | assumption | exact Ne.symm (by assumption) | omega) only [↓ZD, ZU, ne_eq, Zaa, Zab, false_implies, Zac, Zad, Zae, Zaf, Zag, Zah, Zai, Zaj, Zak, Zal, Zam, Zan, Zao, Zap, Zaq, Zar, Zas, Zat, Zau, Zav, Zaw, Zax, Zay, Zaz, Za0, Za1, decide_true, decide_false, beq_self_eq_true, cond_true, cond_false, if_false, if_true, reduceIte, reduceCtorEq, not_true_eq_false, not_false_eq_true, true_and, and_true, forall_const, false_and, and_false, implies_true, Za2, Za3, Za4, Za5]; try trivial)) ?_ ?_
    · refine ⟨by simp (disch := first | assumption | exact Ne.symm (by assumption) | omega) only [↓ZD, ZU, ne_eq, Zaa, Zab, false_implies, Zac, Zad, Zae, Zaf, Zag, Zah, Zai, Zaj, Zak, Zal, Zam, Zan, Zao, Zap, Zaq, Zar, Zas, Zat, Zau, Zav, Zaw, Zax, Zay, Zaz, Za0, Za1, decide_true, decide_false, beq_self_eq_true, cond_true, cond_false, if_false, if_true, reduceIte, reduceCtorEq, not_true_eq_false, not_false_eq_true, true_and, and_true, forall_const, false_and, and_false, implies_true, Za2, Za3, Za4, Za5], HLe.of fun e he => ?_⟩
      have := hokh e he
      simpa only [List.cons_append, List.nil_append] using this
    clear hokh hd
    have hself := Okh.cons (b := b1) (o := .cells #[.slice a1 ts.length c1, .slice a2 xs.length c2] 25 (0, 0)) (okh_own hown) hd1
    rintro i hi
    by_cases hlt : i < xs.length
    · have hd : decide ((i : Int) < (xs.length : Int)) = true := by simp; omega
      have gx := getC hlt
      have hts := take_snoc gx
      have hta : (xs.take (i + 1)).flatMap envsA = (xs.take i).flatMap envsA ++ envsA (xs.getD i nilC) := by rw [hts, List.flatMap_append]; simp
      have hpre := pre_take envsA xs (i + 1)
      rw [hta, ← hM'] at hpre
      obtain ⟨hcl, _, _, _, _, hform, -, hs1, hs2, hs3, hs4⟩ := h2 i _ gx
      rw [hform] at hcl
      obtain ⟨r1', q1', rfl, -⟩ := hs1
      obtain ⟨r2', q2', rfl, -, hql2, hsp⟩ := hs2
      obtain ⟨r3', q3', rfl, -, hql3, hsr⟩ := hs3
      obtain ⟨r4', q4', _, rfl, -⟩ := hs4
      obtain ⟨ba, oa, rfl, -, hla⟩ := hcl.all
      have l0 := hla 0 (by omega)
      have l2 := hla 2 (by omega)
      have l3 := hla 3 (by omega)
      simp only [List.getD_cons_succ, List.getD_cons_zero, Nat.add_zero] at l0 l2 l3
      generalize (xs.take i).flatMap envsA = L at *
      generalize xs.getD i nilC = t at *
      simp (disch := first | assumption | exact Ne.symm (by assumption) | omega) only [hF1, hd, ↓ZD, ZU, ne_eq, Zaa, Zab, false_implies, Zac, Zad, Zae, Zaf, Zag, Zah, Zai, Zaj, Zak, Zal, Zam, Zan, Zao, Zap, Zaq, Zar, Zas, Zat, Zau, Zav, Zaw, Zax, Zay, Zaz, Za0, Za1, decide_true, decide_false, beq_self_eq_true, cond_true, cond_false, if_false, if_true, reduceIte, reduceCtorEq, not_true_eq_false, not_false_eq_true, true_and, and_true, forall_const, false_and, and_false, implies_true, Za2, Za3, Za4, Za5]
      refine LoopL.inv (α := Nat) (fun j => j ≤ t.prs.length)
        (fun j => [(2, some (.pointer (some ⟨b1, 0, none⟩))), (13, some v), (14, some (.int .i64 (L ++ (t.prs.take j).flatMap fun p => t.res.map fun r => ((p, t.id, r) : Env)).length)), (15, some (.int .i64 i)), (16, some (.int .i64 j))])
        (fun j => (b1, .cells #[.slice a1 ts.length c1, .slice (some ⟨ba, oa, none⟩) xs.length c2] 25 (0, 0)) :: Ho) (fun j => t.prs.length - j) 0 (Nat.zero_le _) (by (simp only [Le_nil, Le_cons]; simp (disch := first | assumption | exact Ne.symm (by assumption) | omega) only [↓ZD, ZU, ne_eq, Zaa, Zab, false_implies, Zac, Zad, Zae, Zaf, Zag, Zah, Zai, Zaj, Zak, Zal, Zam, Zan, Zao, Zap, Zaq, Zar, Zas, Zat, Zau, Zav, Zaw, Zax, Zay, Zaz, Za0, Za1, decide_true, decide_false, beq_self_eq_true, cond_true, cond_false, if_false, if_true, reduceIte, reduceCtorEq, not_true_eq_false, not_false_eq_true, true_and, and_true, forall_const, false_and, and_false, implies_true, Za2, Za3, Za4, Za5]; try trivial)) ?_ ?_
      · exact HLe.of hself
      rintro j hj
      by_cases hjl : j < t.prs.length
      · have hdj : decide ((j : Int) < (t.prs.length : Int)) = true := by simp; omega
        have gp := getS hjl
        have htp := take_snoc gp
        have htq : (t.prs.take (j + 1)).flatMap (fun p => t.res.map fun r => ((p, t.id, r) : Env)) = (t.prs.take j).flatMap (fun p => t.res.map fun r => ((p, t.id, r) : Env)) ++ t.res.map fun r => (t.prs.getD j [], t.id, r) := by rw [htp, List.flatMap_append]; simp
        have hpre2 := pre_take (fun p => t.res.map fun r => ((p, t.id, r) : Env)) t.prs (j + 1)
        rw [htq] at hpre2
        have hpre3 : L ++ ((t.prs.take j).flatMap (fun p => t.res.map fun r => ((p, t.id, r) : Env)) ++ t.res.map fun r => (t.prs.getD j [], t.id, r)) <+: M := by
          obtain ⟨z, hz⟩ := hpre2
          obtain ⟨z2, hz2⟩ := hpre
          refine ⟨z ++ z2, ?_⟩
          rw [← hz2]
          unfold envsA
          rw [← hz]
          simp
        rw [← List.append_assoc] at hpre3
        obtain ⟨bp, op, rfl, hlp⟩ := (hsp.1 j _ gp).ld1
        simp only [Nat.mul_one] at hlp
        generalize t.prs.getD j [] = p at *
        have hnext : (L ++ (t.prs.take (j + 1)).flatMap fun p => t.res.map fun r => ((p, t.id, r) : Env)) = (L ++ (t.prs.take j).flatMap fun p => t.res.map fun r => ((p, t.id, r) : Env)) ++ t.res.map fun r => ((p, t.id, r) : Env) := by rw [htq, List.append_assoc]
        have hnl : L.length + ((t.prs.take (j + 1)).flatMap fun p => t.res.map fun r => ((p, t.id, r) : Env)).length = (L ++ (t.prs.take j).flatMap fun p => t.res.map fun r => ((p, t.id, r) : Env)).length + t.res.length := by
          rw [← List.length_append, hnext, List.length_append, List.length_map]
        generalize (L ++ (t.prs.take j).flatMap fun p => t.res.map fun r => ((p, t.id, r) : Env)) = Q at *
        simp (disch := first | assumption | exact Ne.symm (by assumption) | omega) only [hF1, hdj, ↓ZD, ZU, ne_eq, Zaa, Zab, false_implies, Zac, Zad, Zae, Zaf, Zag, Zah, Zai, Zaj, Zak, Zal, Zam, Zan, Zao, Zap, Zaq, Zar, Zas, Zat, Zau, Zav, Zaw, Zax, Zay, Zaz, Za0, Za1, decide_true, decide_false, beq_self_eq_true, cond_true, cond_false, if_false, if_true, reduceIte, reduceCtorEq, not_true_eq_false, not_false_eq_true, true_and, and_true, forall_const, false_and, and_false, implies_true, Za2, Za3, Za4, Za5]
        refine conj.of (by omega) ?_
        simp (disch := first | assumption | exact Ne.symm (by assumption) | omega) only [hF1, hdj, Int.toNat_natCast, ↓l2, ↓ZD, ZU, ne_eq, Zaa, Zab, false_implies, Zac, Zad, Zae, Zaf, Zag, Zah, Zai, Zaj, Zak, Zal, Zam, Zan, Zao, Zap, Zaq, Zar, Zas, Zat, Zau, Zav, Zaw, Zax, Zay, Zaz, Za0, Za1, decide_true, decide_false, beq_self_eq_true, cond_true, cond_false, if_false, if_true, reduceIte, reduceCtorEq, not_true_eq_false, not_false_eq_true, true_and, and_true, forall_const, false_and, and_false, implies_true, Za2, Za3, Za4, Za5]
        refine LoopL.inv (α := Nat) (fun k => k ≤ t.res.length)
          (fun k => [(2, some (.pointer (some ⟨b1, 0, none⟩))), (13, some v), (14, some (.int .i64 (Q.length + k : Nat))), (15, some (.int .i64 i)), (16, some (.int .i64 j)), (17, some (.int .i64 k))])
          (fun k => (b1, .cells #[.slice a1 ts.length c1, .slice (some ⟨ba, oa, none⟩) xs.length c2] 25 (0, 0)) :: Ho) (fun k => t.res.length - k) 0 (Nat.zero_le _) (by (simp only [Le_nil, Le_cons]; simp (disch := first | assumption | exact Ne.symm (by assumption) | omega) only [↓ZD, ZU, ne_eq, Zaa, Zab, false_implies, Zac, Zad, Zae, Zaf, Zag, Zah, Zai, Zaj, Zak, Zal, Zam, Zan, Zao, Zap, Zaq, Zar, Zas, Zat, Zau, Zav, Zaw, Zax, Zay, Zaz, Za0, Za1, decide_true, decide_false, beq_self_eq_true, cond_true, cond_false, if_false, if_true, reduceIte, reduceCtorEq, not_true_eq_false, not_false_eq_true, true_and, and_true, forall_const, false_and, and_false, implies_true, Za2, Za3, Za4, Za5]; try trivial)) ?_ ?_
        · exact HLe.of hself
        rintro k hk
        by_cases hkl : k < t.res.length
        · have hdk : decide ((k : Int) < (t.res.length : Int)) = true := by simp; omega
          have gr := getS hkl
          obtain ⟨br, or_, rfl, hlr⟩ := (hsr.1 k _ gr).ld1
          simp only [Nat.mul_one] at hlr
          have hat : M[Q.length + k]? = some (p, t.id, t.res.getD k []) := by
            obtain ⟨z, rfl⟩ := hpre3
            rw [List.getElem?_append_left (by simp; omega), List.getElem?_append_right (by omega), Nat.add_sub_cancel_left, List.getElem?_map, gr]; rfl
          have hML : Q.length + k < M.length := (List.getElem?_eq_some_iff.1 hat).1
          generalize t.res.getD k [] = r at *
          simp (disch := first | assumption | exact Ne.symm (by assumption) | omega) only [hF1, hdk, ↓ZD, ZU, ne_eq, Zaa, Zab, false_implies, Zac, Zad, Zae, Zaf, Zag, Zah, Zai, Zaj, Zak, Zal, Zam, Zan, Zao, Zap, Zaq, Zar, Zas, Zat, Zau, Zav, Zaw, Zax, Zay, Zaz, Za0, Za1, decide_true, decide_false, beq_self_eq_true, cond_true, cond_false, if_false, if_true, reduceIte, reduceCtorEq, not_true_eq_false, not_false_eq_true, true_and, and_true, forall_const, false_and, and_false, implies_true, Za2, Za3, Za4, Za5]
          refine conj.of (by omega) ?_
          simp (disch := first | assumption | exact Ne.symm (by assumption) | omega) only [hF1, hdk, Int.toNat_natCast, ↓l3, ↓ZD, ZU, ne_eq, Zaa, Zab, false_implies, Zac, Zad, Zae, Zaf, Zag, Zah, Zai, Zaj, Zak, Zal, Zam, Zan, Zao, Zap, Zaq, Zar, Zas, Zat, Zau, Zav, Zaw, Zax, Zay, Zaz, Za0, Za1, decide_true, decide_false, beq_self_eq_true, cond_true, cond_false, if_false, if_true, reduceIte, reduceCtorEq, not_true_eq_false, not_false_eq_true, true_and, and_true, forall_const, false_and, and_false, implies_true, Za2, Za3, Za4, Za5]
          rcases hown.out with ⟨-, h0, -, -⟩ | ⟨b, cap, sp, rfl, rfl, hFb, -⟩
          · omega
          obtain ⟨v0', v1', v2'⟩ := cellsV_get hat sp
          have hcl' := cellsV_len M
          have hlkb := hself (b, .cells (cellsV M ++ sp).toArray 44 (0, 0)) (by simp)
          have hsz3 : (Q.length + k) * 3 + 2 < (cellsV M ++ sp).toArray.size := by simp; omega
          have w0' := ldV_own (F := F) (m := (Q.length + k) * 3) hFb hlkb (by omega)
          have w1' := ldV_own (F := F) (m := (Q.length + k) * 3 + 1) hFb hlkb (by omega)
          have w2' := ldV_own (F := F) (m := (Q.length + k) * 3 + 2) hFb hlkb (by omega)
          rw [List.toList_toArray, v0'] at w0'
          rw [List.toList_toArray, v1'] at w1'
          rw [List.toList_toArray, v2'] at w2'
          have hdl : decide ((M.length : Int) ≤ (Q.length : Int) + (k : Int)) = false := by simp; omega
          have htn : ((Q.length : Int) + (k : Int)).toNat = Q.length + k := by omega
          simp (disch := first | assumption | exact Ne.symm (by assumption) | omega) only [hF1, hdl, Int.natCast_add, htn, ↓ZD, ZU, ne_eq, Zaa, Zab, false_implies, Zac, Zad, Zae, Zaf, Zag, Zah, Zai, Zaj, Zak, Zal, Zam, Zan, Zao, Zap, Zaq, Zar, Zas, Zat, Zau, Zav, Zaw, Zax, Zay, Zaz, Za0, Za1, decide_true, decide_false, beq_self_eq_true, cond_true, cond_false, if_false, if_true, reduceIte, reduceCtorEq, not_true_eq_false, not_false_eq_true, true_and, and_true, forall_const, false_and, and_false, implies_true, Za2, Za3, Za4, Za5]
          refine conj.of (by omega) ?_
          simp (disch := first | assumption | exact Ne.symm (by assumption) | omega) only [hF1, hdl, Int.natCast_add, htn, ↓w1', ↓ZD, ZU, ne_eq, Zaa, Zab, false_implies, Zac, Zad, Zae, Zaf, Zag, Zah, Zai, Zaj, Zak, Zal, Zam, Zan, Zao, Zap, Zaq, Zar, Zas, Zat, Zau, Zav, Zaw, Zax, Zay, Zaz, Za0, Za1, decide_true, decide_false, beq_self_eq_true, cond_true, cond_false, if_false, if_true, reduceIte, reduceCtorEq, not_true_eq_false, not_false_eq_true, true_and, and_true, forall_const, false_and, and_false, implies_true, Za2, Za3, Za4, Za5]
          refine conj.of (by omega) ?_
          simp (disch := first | assumption | exact Ne.symm (by assumption) | omega) only [hF1, hdl, Int.natCast_add, Int.toNat_natCast, htn, Nat.mul_one, ↓w0', ↓w1', ↓w2', ↓l0, ↓l2, ↓l3, ↓hlr, ↓hlp, ↓ZD, ZU, ne_eq, Zaa, Zab, false_implies, Zac, Zad, Zae, Zaf, Zag, Zah, Zai, Zaj, Zak, Zal, Zam, Zan, Zao, Zap, Zaq, Zar, Zas, Zat, Zau, Zav, Zaw, Zax, Zay, Zaz, Za0, Za1, decide_true, decide_false, beq_self_eq_true, cond_true, cond_false, if_false, if_true, reduceIte, reduceCtorEq, not_true_eq_false, not_false_eq_true, true_and, and_true, forall_const, false_and, and_false, implies_true, Za2, Za3, Za4, Za5]
          refine conj.of (by omega) ?_
          simp (disch := first | assumption | exact Ne.symm (by assumption) | omega) only [hF1, hdl, Int.natCast_add, Int.toNat_natCast, htn, Nat.mul_one, ↓w0', ↓w1', ↓w2', ↓l0, ↓l2, ↓l3, ↓hlr, ↓hlp, ↓ZD, ZU, ne_eq, Zaa, Zab, false_implies, Zac, Zad, Zae, Zaf, Zag, Zah, Zai, Zaj, Zak, Zal, Zam, Zan, Zao, Zap, Zaq, Zar, Zas, Zat, Zau, Zav, Zaw, Zax, Zay, Zaz, Za0, Za1, decide_true, decide_false, beq_self_eq_true, cond_true, cond_false, if_false, if_true, reduceIte, reduceCtorEq, not_true_eq_false, not_false_eq_true, true_and, and_true, forall_const, false_and, and_false, implies_true, Za2, Za3, Za4, Za5]
          refine conj.of (by omega) ?_
          simp (disch := first | assumption | exact Ne.symm (by assumption) | omega) only [hF1, hdl, Int.natCast_add, Int.toNat_natCast, htn, Nat.mul_one, ↓w0', ↓w1', ↓w2', ↓l0, ↓l2, ↓l3, ↓hlr, ↓hlp, ↓ZD, ZU, ne_eq, Zaa, Zab, false_implies, Zac, Zad, Zae, Zaf, Zag, Zah, Zai, Zaj, Zak, Zal, Zam, Zan, Zao, Zap, Zaq, Zar, Zas, Zat, Zau, Zav, Zaw, Zax, Zay, Zaz, Za0, Za1, decide_true, decide_false, beq_self_eq_true, cond_true, cond_false, if_false, if_true, reduceIte, reduceCtorEq, not_true_eq_false, not_false_eq_true, true_and, and_true, forall_const, false_and, and_false, implies_true, Za2, Za3, Za4, Za5]
          refine conj.of (by omega) ?_
          simp (disch := first | assumption | exact Ne.symm (by assumption) | omega) only [hF1, hdl, Int.natCast_add, Int.toNat_natCast, htn, Nat.mul_one, ↓w0', ↓w1', ↓w2', ↓l0, ↓l2, ↓l3, ↓hlr, ↓hlp, ↓ZD, ZU, ne_eq, Zaa, Zab, false_implies, Zac, Zad, Zae, Zaf, Zag, Zah, Zai, Zaj, Zak, Zal, Zam, Zan, Zao, Zap, Zaq, Zar, Zas, Zat, Zau, Zav, Zaw, Zax, Zay, Zaz, Za0, Za1, decide_true, decide_false, beq_self_eq_true, cond_true, cond_false, if_false, if_true, reduceIte, reduceCtorEq, not_true_eq_false, not_false_eq_true, true_and, and_true, forall_const, false_and, and_false, implies_true, Za2, Za3, Za4, Za5]
          refine conj.of (by omega) ?_
          simp (disch := first | assumption | exact Ne.symm (by assumption) | omega) only [hF1, hdl, Int.natCast_add, Int.toNat_natCast, htn, Nat.mul_one, ↓w0', ↓w1', ↓w2', ↓l0, ↓l2, ↓l3, ↓hlr, ↓hlp, ↓ZD, ZU, ne_eq, Zaa, Zab, false_implies, Zac, Zad, Zae, Zaf, Zag, Zah, Zai, Zaj, Zak, Zal, Zam, Zan, Zao, Zap, Zaq, Zar, Zas, Zat, Zau, Zav, Zaw, Zax, Zay, Zaz, Za0, Za1, decide_true, decide_false, beq_self_eq_true, cond_true, cond_false, if_false, if_true, reduceIte, reduceCtorEq, not_true_eq_false, not_false_eq_true, true_and, and_true, forall_const, false_and, and_false, implies_true, Za2, Za3, Za4, Za5]
          refine conj.of (by omega) ?_
          simp (disch := first | assumption | exact Ne.symm (by assumption) | omega) only [hF1, hdl, Int.natCast_add, Int.toNat_natCast, htn, Nat.mul_one, ↓w0', ↓w1', ↓w2', ↓l0, ↓l2, ↓l3, ↓hlr, ↓hlp, ↓ZD, ZU, ne_eq, Zaa, Zab, false_implies, Zac, Zad, Zae, Zaf, Zag, Zah, Zai, Zaj, Zak, Zal, Zam, Zan, Zao, Zap, Zaq, Zar, Zas, Zat, Zau, Zav, Zaw, Zax, Zay, Zaz, Za0, Za1, decide_true, decide_false, beq_self_eq_true, cond_true, cond_false, if_false, if_true, reduceIte, reduceCtorEq, not_true_eq_false, not_false_eq_true, true_and, and_true, forall_const, false_and, and_false, implies_true, Za2, Za3, Za4, Za5]
          refine conj.of (by omega) ?_
          simp (disch := first | assumption | exact Ne.symm (by assumption) | omega) only [hF1, hdl, Int.natCast_add, Int.toNat_natCast, htn, Nat.mul_one, ↓w0', ↓w1', ↓w2', ↓l0, ↓l2, ↓l3, ↓hlr, ↓hlp, ↓ZD, ZU, ne_eq, Zaa, Zab, false_implies, Zac, Zad, Zae, Zaf, Zag, Zah, Zai, Zaj, Zak, Zal, Zam, Zan, Zao, Zap, Zaq, Zar, Zas, Zat, Zau, Zav, Zaw, Zax, Zay, Zaz, Za0, Za1, decide_true, decide_false, beq_self_eq_true, cond_true, cond_false, if_false, if_true, reduceIte, reduceCtorEq, not_true_eq_false, not_false_eq_true, true_and, and_true, forall_const, false_and, and_false, implies_true, Za2, Za3, Za4, Za5]
          refine invK.on (k + 1) (by omega) (by omega) ?_ (HLe.of hself)
          (simp only [Le_nil, Le_cons]; simp (disch := first | assumption | exact Ne.symm (by assumption) | omega) only [↓ZD, ZU, ne_eq, Zaa, Zab, false_implies, Zac, Zad, Zae, Zaf, Zag, Zah, Zai, Zaj, Zak, Zal, Zam, Zan, Zao, Zap, Zaq, Zar, Zas, Zat, Zau, Zav, Zaw, Zax, Zay, Zaz, Za0, Za1, decide_true, decide_false, beq_self_eq_true, cond_true, cond_false, if_false, if_true, reduceIte, reduceCtorEq, not_true_eq_false, not_false_eq_true, true_and, and_true, forall_const, false_and, and_false, implies_true, Za2, Za3, Za4, Za5]; try trivial)
        · have hdk : decide ((k : Int) < (t.res.length : Int)) = false := by simp; omega
          obtain rfl : k = t.res.length := by omega
          simp (disch := first | assumption | exact Ne.symm (by assumption) | omega) only [hF1, hdk, ↓ZD, ZU, ne_eq, Zaa, Zab, false_implies, Zac, Zad, Zae, Zaf, Zag, Zah, Zai, Zaj, Zak, Zal, Zam, Zan, Zao, Zap, Zaq, Zar, Zas, Zat, Zau, Zav, Zaw, Zax, Zay, Zaz, Za0, Za1, decide_true, decide_false, beq_self_eq_true, cond_true, cond_false, if_false, if_true, reduceIte, reduceCtorEq, not_true_eq_false, not_false_eq_true, true_and, and_true, forall_const, false_and, and_false, implies_true, Za2, Za3, Za4, Za5]
          refine conj.of (by omega) ?_
          simp (disch := first | assumption | exact Ne.symm (by assumption) | omega) only [hF1, hdk, Int.toNat_natCast, ↓l3, ↓ZD, ZU, ne_eq, Zaa, Zab, false_implies, Zac, Zad, Zae, Zaf, Zag, Zah, Zai, Zaj, Zak, Zal, Zam, Zan, Zao, Zap, Zaq, Zar, Zas, Zat, Zau, Zav, Zaw, Zax, Zay, Zaz, Za0, Za1, decide_true, decide_false, beq_self_eq_true, cond_true, cond_false, if_false, if_true, reduceIte, reduceCtorEq, not_true_eq_false, not_false_eq_true, true_and, and_true, forall_const, false_and, and_false, implies_true, Za2, Za3, Za4, Za5]
          refine invK.on (j + 1) (by omega) (by omega) ?_ (HLe.of hself)
          (simp only [Le_nil, Le_cons]; simp (disch := first | assumption | exact Ne.symm (by assumption) | omega) only [↓ZD, ZU, ne_eq, Zaa, Zab, false_implies, Zac, Zad, Zae, Zaf, Zag, Zah, Zai, Zaj, Zak, Zal, Zam, Zan, Zao, Zap, Zaq, Zar, Zas, Zat, Zau, Zav, Zaw, Zax, Zay, Zaz, Za0, Za1, decide_true, decide_false, beq_self_eq_true, cond_true, cond_false, if_false, if_true, reduceIte, reduceCtorEq, not_true_eq_false, not_false_eq_true, true_and, and_true, forall_const, false_and, and_false, implies_true, Za2, Za3, Za4, Za5]; try trivial)
          rw [hnl]
          exact ⟨rfl, rfl⟩
      · have hdj : decide ((j : Int) < (t.prs.length : Int)) = false := by simp; omega
        obtain rfl : j = t.prs.length := by omega
        simp (disch := first | assumption | exact Ne.symm (by assumption) | omega) only [hF1, hdj, ↓ZD, ZU, ne_eq, Zaa, Zab, false_implies, Zac, Zad, Zae, Zaf, Zag, Zah, Zai, Zaj, Zak, Zal, Zam, Zan, Zao, Zap, Zaq, Zar, Zas, Zat, Zau, Zav, Zaw, Zax, Zay, Zaz, Za0, Za1, decide_true, decide_false, beq_self_eq_true, cond_true, cond_false, if_false, if_true, reduceIte, reduceCtorEq, not_true_eq_false, not_false_eq_true, true_and, and_true, forall_const, false_and, and_false, implies_true, Za2, Za3, Za4, Za5]
        refine conj.of (by omega) ?_
        simp (disch := first | assumption | exact Ne.symm (by assumption) | omega) only [hF1, hdj, Int.toNat_natCast, ↓l2, ↓ZD, ZU, ne_eq, Zaa, Zab, false_implies, Zac, Zad, Zae, Zaf, Zag, Zah, Zai, Zaj, Zak, Zal, Zam, Zan, Zao, Zap, Zaq, Zar, Zas, Zat, Zau, Zav, Zaw, Zax, Zay, Zaz, Za0, Za1, decide_true, decide_false, beq_self_eq_true, cond_true, cond_false, if_false, if_true, reduceIte, reduceCtorEq, not_true_eq_false, not_false_eq_true, true_and, and_true, forall_const, false_and, and_false, implies_true, Za2, Za3, Za4, Za5]
        refine invK.on (i + 1) (by omega) (by omega) ?_ (HLe.of hself)
        (simp only [Le_nil, Le_cons]; simp (disch := first | assumption | exact Ne.symm (by assumption) | omega) only [↓ZD, ZU, ne_eq, Zaa, Zab, false_implies, Zac, Zad, Zae, Zaf, Zag, Zah, Zai, Zaj, Zak, Zal, Zam, Zan, Zao, Zap, Zaq, Zar, Zas, Zat, Zau, Zav, Zaw, Zax, Zay, Zaz, Za0, Za1, decide_true, decide_false, beq_self_eq_true, cond_true, cond_false, if_false, if_true, reduceIte, reduceCtorEq, not_true_eq_false, not_false_eq_true, true_and, and_true, forall_const, false_and, and_false, implies_true, Za2, Za3, Za4, Za5]; try trivial)
        rw [hta]
        unfold envsA
        rw [List.length_append, List.take_length]
        exact ⟨rfl, rfl⟩
    · have hd : decide ((i : Int) < (xs.length : Int)) = false := by simp; omega
      obtain rfl : i = xs.length := by omega
      simp (disch := first | assumption | exact Ne.symm (by assumption) | omega) only [hF1, hd, ↓ZD, ZU, ne_eq, Zaa, Zab, false_implies, Zac, Zad, Zae, Zaf, Zag, Zah, Zai, Zaj, Zak, Zal, Zam, Zan, Zao, Zap, Zaq, Zar, Zas, Zat, Zau, Zav, Zaw, Zax, Zay, Zaz, Za0, Za1, decide_true, decide_false, beq_self_eq_true, cond_true, cond_false, if_false, if_true, reduceIte, reduceCtorEq, not_true_eq_false, not_false_eq_true, true_and, and_true, forall_const, false_and, and_false, implies_true, Za2, Za3, Za4, Za5]
      rw [List.take_length, ← hM']
      rcases hown.out with ⟨-, h0, rfl, -⟩ | ⟨b, cap, sp, rfl, rfl, -⟩
      · simp (disch := first | assumption | exact Ne.symm (by assumption) | omega) only [hF1, ↓ZD, ZU, ne_eq, Zaa, Zab, false_implies, Zac, Zad, Zae, Zaf, Zag, Zah, Zai, Zaj, Zak, Zal, Zam, Zan, Zao, Zap, Zaq, Zar, Zas, Zat, Zau, Zav, Zaw, Zax, Zay, Zaz, Za0, Za1, decide_true, decide_false, beq_self_eq_true, cond_true, cond_false, if_false, if_true, reduceIte, reduceCtorEq, not_true_eq_false, not_false_eq_true, true_and, and_true, forall_const, false_and, and_false, implies_true, Za2, Za3, Za4, Za5]
        rw [h0]
        rfl
      · simp (disch := first | assumption | exact Ne.symm (by assumption) | omega) only [hF1, ↓ZD, ZU, ne_eq, Zaa, Zab, false_implies, Zac, Zad, Zae, Zaf, Zag, Zah, Zai, Zaj, Zak, Zal, Zam, Zan, Zao, Zap, Zaq, Zar, Zas, Zat, Zau, Zav, Zaw, Zax, Zay, Zaz, Za0, Za1, decide_true, decide_false, beq_self_eq_true, cond_true, cond_false, if_false, if_true, reduceIte, reduceCtorEq, not_true_eq_false, not_false_eq_true, true_and, and_true, forall_const, false_and, and_false, implies_true, Za2, Za3, Za4, Za5]
end Go.Proofs.YtnnieekbklmgdaaDoor
namespace Go.Proofs.YtnnieekbklmgdaaDoor.schemaFinds
open Go Go.ChangeShapes Go.WideShapes Go.ChangeAt Go.RowKit
open Go.ChangeMaps (open_string shut_string)
set_option linter.unusedVariables false

theorem own : ownKnob Tryd.prog.godebug = none := by kernel_rfl
theorem laidOut : laidOutB Tryd.prog = true := by kernel_rfl
theorem walk (c0 : List Value) (t0 : Sch) (a1 : ByteArray) (w : World) (w0 : RepH (fun b => w.heap[b]?) c0 t0) (w1 : a1.size ≤ maxLen) (hsh : w.ShapedOpen Tryd.prog) (hL : laidMetH Tryd.prog Rows.schemaFindsRow.laid w) :
    Calls Tryd.prog 4 #[.agg c0.toArray, .string a1] w fun e w' => e = .returned (.bool true) ∧ Below w.heap.size w w' := by
  exact finds_law (fun b => w.heap[b]?) (hasM_of hsh) w0 a1.data.toList w (fun _ _ h => h)

set_option maxRecDepth 100000 in
theorem laid_met (os : Os) (args : Array Value) : laidMetH Tryd.prog Rows.schemaFindsRow.laid ((World.laidAll Tryd.prog os Rows.schemaFindsRow.laid).forCall (fun _ _ => 0) ⟨#[], args, []⟩).memory := by
  rw [MakeChecks.laidMetH_plain _ _ _ (by kernel_rfl)]
  exact laidMet_laidAll args (by kernel_rfl) (by kernel_rfl)
set_option maxRecDepth 100000 in
theorem lifted (os : Os) (started : os.Started) (H : Type) (enc : TypeId × Value → H) :
    ReturnsInHanded {} Tryd.checked os 4 .any (fun w args => (Rows.schemaFindsSpec.pre enc Tryd.prog Tryd.f4 Rows.schemaFindsRow.domain false w args ∧ laidMetH Tryd.prog Rows.schemaFindsRow.laid w) ∧ sizedMet enc Tryd.prog Tryd.f4 (OpenSpec.ofChange Rows.schemaFindsSpec) false w args) (Rows.schemaFindsSpec.post enc Tryd.prog Tryd.f4 false true false false) := by
  refine returnsInHanded_laid (C := Tryd.checked) (X := fun w _ => laidMetH Tryd.prog Rows.schemaFindsRow.laid w) (fun _ _ _ hh h => h.of_heap hh) own started (by kernel_rfl) Tryd.func4
    (ChangeSpec.witness_at (enc := enc) (C := Tryd.checked) (os := os) (X := fun w _ => laidMetH Tryd.prog Rows.schemaFindsRow.laid w) false (World.laidAll Tryd.prog os Rows.schemaFindsRow.laid) #[.agg #[.slice none 0 0, .slice none 0 0], .string ByteArray.empty] 8 (World.laidAll_os _ _ _) (by kernel_rfl) (by kernel_rfl) (by kernel_rfl) (by kernel_rfl) (by kernel_rfl) (laid_met os _)) ?_
  intro W base args ds gs before hval0 hW hcnd _ hL hsh
  have hval : ∀ (j : Nat) t v, Tryd.f4.params[j]? = some t → args[j]? = some v → Value.okWide Tryd.prog W .any base t v := hval0
  have hW' := hW
  obtain ⟨p, q, hA0, hV, rfl, hfz, hnd⟩ := hW
  have hA : DataW.TrodAll enc Tryd.prog W 0 (fun _ => true) true Tryd.f4.params.toList args.toList ds p := hA0
  rw [Tryd.params4] at hA hval
  obtain ⟨v0, vs0, d0, ds0, p0, q0, hargs, rfl, rfl, h0, r0⟩ := trodAll_cons hA
  obtain ⟨v1, vs1, d1, ds1, p1, q1, rfl, rfl, rfl, h1, r1⟩ := trodAll_cons r0
  obtain ⟨rfl, rfl, rfl⟩ := trodAll_nil r1
  obtain rfl : args = #[v0, v1] := by cases args; simp_all
  obtain ⟨rfl, rfl⟩ := trodVars_none hV
  have k0 := h0
  have lt0 : ∀ x ∈ p0, x.block < W.heap.size := by obtain ⟨m, hm⟩ := k0; exact DataW.trod_lt m _ _ _ hm
  obtain ⟨⟨c0⟩, rfl, hsz0⟩ := okWide_struct Tryd.underlying25 (hval 0 25 v0 rfl rfl)
  obtain ⟨t0, w0⟩ : ∃ t, RepH (fun b => W.heap[b]?) c0 t := by obtain ⟨fuel, hf⟩ := h0; exact open_sch fuel _ _ hf
  obtain ⟨a1, rfl, rfl, rfl, w1⟩ := open_string Tryd.underlying9 (hval 1 9 v1 rfl rfl) h1
  clear hA0 hval0
  refine (walk c0 t0 a1 W w0 w1 hsh hL).mono fun e W' ⟨he, bel⟩ => ?_
  subst he
  exact ⟨_, rfl, _, _, _, [], _, [], hW', trodAll_mk1 (shut_bool Tryd.underlying4 _), (trodAll_cons_mk (Below.trod laidOut (by kernel_rfl) (of_decide_eq_true (by kernel_rfl)) k0 bel lt0) (trodAll_cons_mk (shut_string Tryd.underlying9 w1) trodAll_mk0)), rfl, bel.frame _, fun h => by cases h⟩
theorem over : Rows.schemaFindsRow.holds Tryd.pinned (OpenSpec.ofChange Rows.schemaFindsSpec) :=
  OpenClaim.holds_of_wide 4 Tryd.f4 rfl rfl rfl rfl rfl rfl rfl ⟨rfl, rfl, rfl, rfl, rfl⟩ rfl rfl rfl rfl rfl (by kernel_rfl) Tryd.func4 (by kernel_rfl)
    (of_decide_eq_true (by kernel_rfl)) (by unfold Func.isWrapper; first | (rw [if_pos (by decide +kernel)]; kernel_rfl) | (rw [if_neg (by decide +kernel)]; exact ⟨rfl, rfl⟩))
    (fun os started H enc _ => lifted os started H enc)
theorem proved : Rows.SchemaFindsCardSaid :=
  Claim7.holds_tied_plain_at .later [] [.data, .pinned] true (true, "7e76be3e1e9495098fe0d596c9d577010a9804cd9a21972032f764208a0ccf71") false
    over (fun _ h => by cases h) (by kernel_rfl) (fun _ h => by cases h) schemaFinds_row_tie rfl ⟨rfl, rfl⟩ (by kernel_rfl) rfl
    (fun f fn hf hfn => by
      obtain rfl : f = 4 := Option.some.inj ((show Tryd.prog.funcNamed "chamberlain/chamberlainlaw12.SchemaFinds" = some 4 by kernel_rfl).symm.trans hf) |>.symm
      obtain rfl : fn = Tryd.f4 := (Option.some.inj (Tryd.func4.symm.trans hfn)).symm
      exact ⟨by kernel_rfl, fun j t ht => by
        have hm : t ∈ [25, 9] := by
          have := Array.mem_of_getElem? ht
          rw [Tryd.params4] at this
          simpa using this
        have hall : ([25, 9].all fun u => !Tryd.prog.wantsStandIn u) = true := by kernel_rfl
        exact (show Tryd.prog.wantsStandIn t = false by simpa using List.all_eq_true.1 hall t hm)⟩)
    (by kernel_rfl)
#print axioms proved
end Go.Proofs.YtnnieekbklmgdaaDoor.schemaFinds
