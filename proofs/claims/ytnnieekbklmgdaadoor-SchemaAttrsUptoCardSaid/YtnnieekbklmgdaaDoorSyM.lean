/- Layer 12: all kinds of requests; which schemas are small enough. -/
import Derived.Test.YtnnieekbklmgdaaDoorSyL
namespace Go.Proofs.YtnnieekbklmgdaaDoor
open Go Go.Eng
open Int renaming reduceEq → Zaa, reduceToNat → Zaw, reduceLE → Zax, reduceLT → Zay, reduceAdd → Zaz, reduceSub → Za0, reduceNeg → Za1, reducePow → Za3, reduceNegSucc → Za5
open UInt8 renaming reduceOfNat → Zab
open Go.Eng renaming subG → Zac, lit → Zad, isPar → Zae, numb → Zaf, Wf → Zag, resV → Zah, oneCell → Zai, isB → Zaj, asB → Zak
open List renaming mapM_cons → Zal, mapM_nil → Zam
open Go.Value renaming cells → Zan
open Nat renaming reduceAdd → Zao, reduceMul → Zap, reduceMod → Zaq, reduceDiv → Zar, reduceEqDiff → Zas, reduceBEq → Zat, reduceLeDiff → Zau, reduceSub → Zav, reducePow → Za2, reduceLT → Za4
set_option linter.unusedSimpArgs false
set_option linter.unusedVariables false
set_option maxRecDepth 20000

abbrev Env := Str × Str × Str
def envsA (a : AC) : List Env := a.prs.flatMap fun p => a.res.map fun r => (p, a.id, r)
def envs (s : Sch) : List Env := s.acts.flatMap envsA
def cellsV (l : List Env) : List Value := l.flatMap fun e => [.string (bs e.1), .string (bs e.2.1), .string (bs e.2.2)]
theorem cellsV_len (l : List Env) : (cellsV l).length = l.length * 3 := by
  unfold cellsV
  induction l with
  | nil => rfl
  | cons x l ih => rw [List.flatMap_cons, List.length_append, ih]; simp; omega
theorem cellsV_snoc (l : List Env) (e : Env) : cellsV (l ++ [e]) = cellsV l ++ [.string (bs e.1), .string (bs e.2.1), .string (bs e.2.2)] := by
  unfold cellsV; rw [List.flatMap_append]; simp
theorem flatMap_take_le {α β : Type} (f : α → List β) (l : List α) (i : Nat) : ((l.take i).flatMap f).length ≤ (l.flatMap f).length := by
  have e : l.flatMap f = (l.take i).flatMap f ++ (l.drop i).flatMap f := by rw [← List.flatMap_append, List.take_append_drop]
  rw [e, List.length_append]; omega
theorem envs_does (F : Base) {ch : List Value} {s : Sch} (hs : RepH F ch s) (hm : (envs s).length ≤ 100000) : Does Tryd.prog F 16 #[.agg ch.toArray] [] (fun v H => OwnS F 3 44 (cellsV (envs s)) (envs s).length v H) := by
  cases hs with
  | mk a1 a2 c1 c2 ts xs g1 g2 hc1 hc2 hl1 hl2 h1 h2 =>
    unfold envs at *
    simp only at *
    refine Does.shr (K := fun v H => ∃ Hc, (∀ e ∈ Hc, e ∈ H) ∧ OwnS F 3 44 (cellsV (xs.flatMap envsA)) (xs.flatMap envsA).length v Hc) ?_ (fun _ _ h => h)
    refine does_of_svc mixed Tryd.func16 low16 (Nat.le_of_ble_eq_true rfl) (fun w0 hw0 => ?_)
    simp (disch := first | assumption | exact Ne.symm (by assumption) | omega) only [fu16, ↓ZD, ZU, ne_eq, Zaa, Zab, false_implies, Zac, Zad, Zae, Zaf, Zag, Zah, Zai, Zaj, Zak, Zal, Zam, Zan, Zao, Zap, Zaq, Zar, Zas, Zat, Zau, Zav, Zaw, Zax, Zay, Zaz, Za0, Za1, decide_true, decide_false, beq_self_eq_true, cond_true, cond_false, if_false, if_true, reduceIte, reduceCtorEq, not_true_eq_false, not_false_eq_true, true_and, and_true, forall_const, false_and, and_false, implies_true, Za2, Za3, Za4, Za5]
    refine NewB.of fun b1 hb1 hF1 => ?_
    simp (disch := first | assumption | exact Ne.symm (by assumption) | omega) only [hF1, ↓ZD, ZU, ne_eq, Zaa, Zab, false_implies, Zac, Zad, Zae, Zaf, Zag, Zah, Zai, Zaj, Zak, Zal, Zam, Zan, Zao, Zap, Zaq, Zar, Zas, Zat, Zau, Zav, Zaw, Zax, Zay, Zaz, Za0, Za1, decide_true, decide_false, beq_self_eq_true, cond_true, cond_false, if_false, if_true, reduceIte, reduceCtorEq, not_true_eq_false, not_false_eq_true, true_and, and_true, forall_const, false_and, and_false, implies_true, Za2, Za3, Za4, Za5]
    refine LoopL.inv (α := Nat × Value × Hp) (fun z => z.1 ≤ xs.length ∧ OwnS F 3 44 (cellsV ((xs.take z.1).flatMap envsA)) ((xs.take z.1).flatMap envsA).length z.2.1 z.2.2)
      (fun z => [(3, some z.2.1), (11, some (.slice a2 xs.length c2)), (12, some (.int .i64 xs.length)), (13, some (.int .i64 z.1))])
      (fun z => z.2.2) (fun z => xs.length - z.1) (0, .slice none 0 0, []) ⟨Nat.zero_le _, .nil⟩ (by (simp only [Le_nil, Le_cons]; simp (disch := first | assumption | exact Ne.symm (by assumption) | omega) only [↓ZD, ZU, ne_eq, Zaa, Zab, false_implies, Zac, Zad, Zae, Zaf, Zag, Zah, Zai, Zaj, Zak, Zal, Zam, Zan, Zao, Zap, Zaq, Zar, Zas, Zat, Zau, Zav, Zaw, Zax, Zay, Zaz, Za0, Za1, decide_true, decide_false, beq_self_eq_true, cond_true, cond_false, if_false, if_true, reduceIte, reduceCtorEq, not_true_eq_false, not_false_eq_true, true_and, and_true, forall_const, false_and, and_false, implies_true, Za2, Za3, Za4, Za5]; try trivial)) trivial ?_
    rintro ⟨i, v, Ho⟩ ⟨hi, ho⟩
    simp only at hi ho
    by_cases hlt : i < xs.length
    · have hd : decide ((i : Int) < (xs.length : Int)) = true := by simp; omega
      have gx := getC hlt
      have hxm := List.mem_of_getElem? gx
      have hts := take_snoc gx
      obtain ⟨hcl, e1, e2, e3, e4, hform, hnl, hs1, hs2, hs3, hs4⟩ := h2 i _ gx
      rw [hform] at hcl
      have hpre := flatMap_take_le envsA xs (i + 1)
      rw [hts, List.flatMap_append, List.flatMap_cons, List.flatMap_nil, List.append_nil, List.length_append] at hpre
      have hta : (xs.take (i + 1)).flatMap envsA = (xs.take i).flatMap envsA ++ envsA (xs.getD i nilC) := by rw [hts, List.flatMap_append]; simp
      generalize xs.getD i nilC = t at *
      generalize (xs.take i).flatMap envsA = L at *
      obtain ⟨r1, q1, rfl, -⟩ := hs1
      obtain ⟨r2, q2, rfl, hq2, hql2, hsp⟩ := hs2
      obtain ⟨r3, q3, rfl, hq3, hql3, hsr⟩ := hs3
      obtain ⟨r4, q4, _, rfl, -⟩ := hs4
      obtain ⟨ba, oa, rfl, hla⟩ := hcl.ldn
      simp (disch := first | assumption | exact Ne.symm (by assumption) | omega) only [hd, ↓ZD, ZU, ne_eq, Zaa, Zab, false_implies, Zac, Zad, Zae, Zaf, Zag, Zah, Zai, Zaj, Zak, Zal, Zam, Zan, Zao, Zap, Zaq, Zar, Zas, Zat, Zau, Zav, Zaw, Zax, Zay, Zaz, Za0, Za1, decide_true, decide_false, beq_self_eq_true, cond_true, cond_false, if_false, if_true, reduceIte, reduceCtorEq, not_true_eq_false, not_false_eq_true, true_and, and_true, forall_const, false_and, and_false, implies_true, Za2, Za3, Za4, Za5]
      refine conj.of (by omega) ?_
      simp (disch := first | assumption | exact Ne.symm (by assumption) | omega) only [hd, Int.toNat_natCast, ↓hla, ↓ZD, ZU, ne_eq, Zaa, Zab, false_implies, Zac, Zad, Zae, Zaf, Zag, Zah, Zai, Zaj, Zak, Zal, Zam, Zan, Zao, Zap, Zaq, Zar, Zas, Zat, Zau, Zav, Zaw, Zax, Zay, Zaz, Za0, Za1, decide_true, decide_false, beq_self_eq_true, cond_true, cond_false, if_false, if_true, reduceIte, reduceCtorEq, not_true_eq_false, not_false_eq_true, true_and, and_true, forall_const, false_and, and_false, implies_true, Za2, Za3, Za4, Za5]
      refine NewB.of fun b2 hb2 hF2 => ?_
      have hup2 : ∀ o, upd Ho b2 o = Ho := fun o => upd_new hb2
      simp (disch := first | assumption | exact Ne.symm (by assumption) | omega) only [hF2, hup2, ↓ZD, ZU, ne_eq, Zaa, Zab, false_implies, Zac, Zad, Zae, Zaf, Zag, Zah, Zai, Zaj, Zak, Zal, Zam, Zan, Zao, Zap, Zaq, Zar, Zas, Zat, Zau, Zav, Zaw, Zax, Zay, Zaz, Za0, Za1, decide_true, decide_false, beq_self_eq_true, cond_true, cond_false, if_false, if_true, reduceIte, reduceCtorEq, not_true_eq_false, not_false_eq_true, true_and, and_true, forall_const, false_and, and_false, implies_true, Za2, Za3, Za4, Za5]
      refine LoopL.inv (α := Nat × Value × Hp) (fun z => z.1 ≤ t.prs.length ∧ OwnS F 3 44 (cellsV (L ++ (t.prs.take z.1).flatMap fun p => t.res.map fun r => (p, t.id, r))) (L ++ (t.prs.take z.1).flatMap fun p => t.res.map fun r => (p, t.id, r)).length z.2.1 z.2.2 ∧ ∀ e ∈ z.2.2, e.1 ≠ b2)
        (fun z => [(3, some z.2.1), (5, some (.pointer (some ⟨b2, 0, none⟩))), (11, some (.slice (some ⟨ba, oa, none⟩) xs.length c2)), (12, some (.int .i64 xs.length)), (13, some (.int .i64 i)), (18, some (.slice r2 t.prs.length q2)), (19, some (.int .i64 t.prs.length)), (20, some (.int .i64 z.1))])
        (fun z => (b2, .cells #[.string (bs t.id), .slice r1 t.inn.length q1, .slice r2 t.prs.length q2, .slice r3 t.res.length q3, .slice r4 t.ctx.length q4] 37 (0, 0)) :: z.2.2) (fun z => t.prs.length - z.1)
        (0, v, Ho) ⟨Nat.zero_le _, by simpa using ho, hb2⟩ (by (simp only [Le_nil, Le_cons]; simp (disch := first | assumption | exact Ne.symm (by assumption) | omega) only [↓ZD, ZU, ne_eq, Zaa, Zab, false_implies, Zac, Zad, Zae, Zaf, Zag, Zah, Zai, Zaj, Zak, Zal, Zam, Zan, Zao, Zap, Zaq, Zar, Zas, Zat, Zau, Zav, Zaw, Zax, Zay, Zaz, Za0, Za1, decide_true, decide_false, beq_self_eq_true, cond_true, cond_false, if_false, if_true, reduceIte, reduceCtorEq, not_true_eq_false, not_false_eq_true, true_and, and_true, forall_const, false_and, and_false, implies_true, Za2, Za3, Za4, Za5]; try trivial)) ⟨by simp (disch := first | assumption | exact Ne.symm (by assumption) | omega) only [↓ZD, ZU, ne_eq, Zaa, Zab, false_implies, Zac, Zad, Zae, Zaf, Zag, Zah, Zai, Zaj, Zak, Zal, Zam, Zan, Zao, Zap, Zaq, Zar, Zas, Zat, Zau, Zav, Zaw, Zax, Zay, Zaz, Za0, Za1, decide_true, decide_false, beq_self_eq_true, cond_true, cond_false, if_false, if_true, reduceIte, reduceCtorEq, not_true_eq_false, not_false_eq_true, true_and, and_true, forall_const, false_and, and_false, implies_true, Za2, Za3, Za4, Za5], ho.hle [_] (by simp only [List.forall_mem_cons, List.not_mem_nil, false_implies, implies_true, and_true]; exact hb2)⟩ ?_
      rintro ⟨j, v2, H2⟩ ⟨hj, ho2, hob2⟩
      simp only at hj ho2 hob2
      by_cases hjl : j < t.prs.length
      · have hdj : decide ((j : Int) < (t.prs.length : Int)) = true := by simp; omega
        have gp := getS hjl
        have htp := take_snoc gp
        have hpre2 := flatMap_take_le (fun p => t.res.map fun r => ((p, t.id, r) : Env)) t.prs (j + 1)
        rw [htp, List.flatMap_append, List.flatMap_cons, List.flatMap_nil, List.append_nil, List.length_append, List.length_map] at hpre2
        have htq : (t.prs.take (j + 1)).flatMap (fun p => t.res.map fun r => ((p, t.id, r) : Env)) = (t.prs.take j).flatMap (fun p => t.res.map fun r => ((p, t.id, r) : Env)) ++ t.res.map fun r => (t.prs.getD j [], t.id, r) := by rw [htp, List.flatMap_append]; simp
        obtain ⟨bp, op, rfl, hlp⟩ := (hsp.1 j _ gp).ld1
        simp only [Nat.mul_one] at hlp
        generalize t.prs.getD j [] = p at *
        generalize hM : L ++ (t.prs.take j).flatMap (fun p => t.res.map fun r => ((p, t.id, r) : Env)) = M at *
        have hMl : M.length + t.res.length ≤ 100000 := by
          have he : (envsA t).length = (t.prs.flatMap fun p => t.res.map fun r => ((p, t.id, r) : Env)).length := rfl
          rw [← hM, List.length_append]
          omega
        simp (disch := first | assumption | exact Ne.symm (by assumption) | omega) only [hdj, Nat.mul_one, ↓ZD, ZU, ne_eq, Zaa, Zab, false_implies, Zac, Zad, Zae, Zaf, Zag, Zah, Zai, Zaj, Zak, Zal, Zam, Zan, Zao, Zap, Zaq, Zar, Zas, Zat, Zau, Zav, Zaw, Zax, Zay, Zaz, Za0, Za1, decide_true, decide_false, beq_self_eq_true, cond_true, cond_false, if_false, if_true, reduceIte, reduceCtorEq, not_true_eq_false, not_false_eq_true, true_and, and_true, forall_const, false_and, and_false, implies_true, Za2, Za3, Za4, Za5]
        refine conj.of (by omega) ?_
        simp (disch := first | assumption | exact Ne.symm (by assumption) | omega) only [hdj, Int.toNat_natCast, Nat.mul_one, ↓hlp, ↓ZD, ZU, ne_eq, Zaa, Zab, false_implies, Zac, Zad, Zae, Zaf, Zag, Zah, Zai, Zaj, Zak, Zal, Zam, Zan, Zao, Zap, Zaq, Zar, Zas, Zat, Zau, Zav, Zaw, Zax, Zay, Zaz, Za0, Za1, decide_true, decide_false, beq_self_eq_true, cond_true, cond_false, if_false, if_true, reduceIte, reduceCtorEq, not_true_eq_false, not_false_eq_true, true_and, and_true, forall_const, false_and, and_false, implies_true, Za2, Za3, Za4, Za5]
        refine LoopL.inv (α := Nat × Value × Hp) (fun z => z.1 ≤ t.res.length ∧ OwnS F 3 44 (cellsV (M ++ (t.res.take z.1).map fun r => (p, t.id, r))) (M.length + z.1) z.2.1 z.2.2 ∧ ∀ e ∈ z.2.2, e.1 ≠ b2)
          (fun z => [(3, some z.2.1), (5, some (.pointer (some ⟨b2, 0, none⟩))), (7, some (.string (bs p))), (11, some (.slice (some ⟨ba, oa, none⟩) xs.length c2)), (12, some (.int .i64 xs.length)), (13, some (.int .i64 i)), (18, some (.slice (some ⟨bp, op, none⟩) t.prs.length q2)), (19, some (.int .i64 t.prs.length)), (20, some (.int .i64 j)), (25, some (.slice r3 t.res.length q3)), (26, some (.int .i64 t.res.length)), (27, some (.int .i64 z.1))])
          (fun z => (b2, .cells #[.string (bs t.id), .slice r1 t.inn.length q1, .slice (some ⟨bp, op, none⟩) t.prs.length q2, .slice r3 t.res.length q3, .slice r4 t.ctx.length q4] 37 (0, 0)) :: z.2.2) (fun z => t.res.length - z.1)
          (0, v2, H2) ⟨Nat.zero_le _, by simpa using ho2, hob2⟩ (by (simp only [Le_nil, Le_cons]; simp (disch := first | assumption | exact Ne.symm (by assumption) | omega) only [↓ZD, ZU, ne_eq, Zaa, Zab, false_implies, Zac, Zad, Zae, Zaf, Zag, Zah, Zai, Zaj, Zak, Zal, Zam, Zan, Zao, Zap, Zaq, Zar, Zas, Zat, Zau, Zav, Zaw, Zax, Zay, Zaz, Za0, Za1, decide_true, decide_false, beq_self_eq_true, cond_true, cond_false, if_false, if_true, reduceIte, reduceCtorEq, not_true_eq_false, not_false_eq_true, true_and, and_true, forall_const, false_and, and_false, implies_true, Za2, Za3, Za4, Za5]; try trivial)) ⟨by simp (disch := first | assumption | exact Ne.symm (by assumption) | omega) only [↓ZD, ZU, ne_eq, Zaa, Zab, false_implies, Zac, Zad, Zae, Zaf, Zag, Zah, Zai, Zaj, Zak, Zal, Zam, Zan, Zao, Zap, Zaq, Zar, Zas, Zat, Zau, Zav, Zaw, Zax, Zay, Zaz, Za0, Za1, decide_true, decide_false, beq_self_eq_true, cond_true, cond_false, if_false, if_true, reduceIte, reduceCtorEq, not_true_eq_false, not_false_eq_true, true_and, and_true, forall_const, false_and, and_false, implies_true, Za2, Za3, Za4, Za5], ho2.hle [_] (by simp only [List.forall_mem_cons, List.not_mem_nil, false_implies, implies_true, and_true]; exact hob2)⟩ ?_
        rintro ⟨k, v3, H3⟩ ⟨hk, ho3, hob3⟩
        simp only at hk ho3 hob3
        by_cases hkl : k < t.res.length
        · have hdk : decide ((k : Int) < (t.res.length : Int)) = true := by simp; omega
          have gr := getS hkl
          have htr := take_snoc gr
          obtain ⟨br, or_, rfl, hlr⟩ := (hsr.1 k _ gr).ld1
          simp only [Nat.mul_one] at hlr
          generalize t.res.getD k [] = r at *
          simp (disch := first | assumption | exact Ne.symm (by assumption) | omega) only [hdk, Nat.mul_one, ↓ZD, ZU, ne_eq, Zaa, Zab, false_implies, Zac, Zad, Zae, Zaf, Zag, Zah, Zai, Zaj, Zak, Zal, Zam, Zan, Zao, Zap, Zaq, Zar, Zas, Zat, Zau, Zav, Zaw, Zax, Zay, Zaz, Za0, Za1, decide_true, decide_false, beq_self_eq_true, cond_true, cond_false, if_false, if_true, reduceIte, reduceCtorEq, not_true_eq_false, not_false_eq_true, true_and, and_true, forall_const, false_and, and_false, implies_true, Za2, Za3, Za4, Za5]
          refine conj.of (by omega) ?_
          simp (disch := first | assumption | exact Ne.symm (by assumption) | omega) only [hdk, Int.toNat_natCast, Nat.mul_one, ↓hlr, ↓ZD, ZU, ne_eq, Zaa, Zab, false_implies, Zac, Zad, Zae, Zaf, Zag, Zah, Zai, Zaj, Zak, Zal, Zam, Zan, Zao, Zap, Zaq, Zar, Zas, Zat, Zau, Zav, Zaw, Zax, Zay, Zaz, Za0, Za1, decide_true, decide_false, beq_self_eq_true, cond_true, cond_false, if_false, if_true, reduceIte, reduceCtorEq, not_true_eq_false, not_false_eq_true, true_and, and_true, forall_const, false_and, and_false, implies_true, Za2, Za3, Za4, Za5]
          refine NewB.of fun b3 hb3 hF3 => ?_
          simp only [List.forall_mem_cons] at hb3
          obtain ⟨_, hb3⟩ := hb3
          simp (disch := first | assumption | exact Ne.symm (by assumption) | omega) only [hF2, hF3, ↓ZD, ZU, ne_eq, Zaa, Zab, false_implies, Zac, Zad, Zae, Zaf, Zag, Zah, Zai, Zaj, Zak, Zal, Zam, Zan, Zao, Zap, Zaq, Zar, Zas, Zat, Zau, Zav, Zaw, Zax, Zay, Zaz, Za0, Za1, decide_true, decide_false, beq_self_eq_true, cond_true, cond_false, if_false, if_true, reduceIte, reduceCtorEq, not_true_eq_false, not_false_eq_true, true_and, and_true, forall_const, false_and, and_false, implies_true, Za2, Za3, Za4, Za5]
          refine EfL.grow (Hr := [(b2, .cells #[.string (bs t.id), .slice r1 t.inn.length q1, .slice (some ⟨bp, op, none⟩) t.prs.length q2, .slice (some ⟨br, or_, none⟩) t.res.length q3, .slice r4 t.ctx.length q4] 37 (0, 0))]) (m := 1) (nw := [.string (bs p), .string (bs t.id), .string (bs r)]) ho3 (ho3.lk [_, _] (by simp only [List.forall_mem_cons, List.not_mem_nil, false_implies, implies_true, and_true]; exact ⟨hb3, hob3⟩)) (by simp) (by simp only [List.forall_mem_cons]; exact ⟨hob3, fun e he => by cases he⟩) ?_ rfl (by simp [oneCell]) (by simp) (by omega) ?_
          · simp (disch := first | assumption | exact Ne.symm (by assumption) | omega) only [hF3, ↓ZD, ZU, ne_eq, Zaa, Zab, false_implies, Zac, Zad, Zae, Zaf, Zag, Zah, Zai, Zaj, Zak, Zal, Zam, Zan, Zao, Zap, Zaq, Zar, Zas, Zat, Zau, Zav, Zaw, Zax, Zay, Zaz, Za0, Za1, decide_true, decide_false, beq_self_eq_true, cond_true, cond_false, if_false, if_true, reduceIte, reduceCtorEq, not_true_eq_false, not_false_eq_true, true_and, and_true, forall_const, false_and, and_false, implies_true, Za2, Za3, Za4, Za5]
          · intro b4 cap4 sp4 hs4 hc4 hm4 hF4 hne4
            simp only [List.forall_mem_cons] at hne4
            simp (disch := first | assumption | exact Ne.symm (by assumption) | omega) only [↓ZD, ZU, ne_eq, Zaa, Zab, false_implies, Zac, Zad, Zae, Zaf, Zag, Zah, Zai, Zaj, Zak, Zal, Zam, Zan, Zao, Zap, Zaq, Zar, Zas, Zat, Zau, Zav, Zaw, Zax, Zay, Zaz, Za0, Za1, decide_true, decide_false, beq_self_eq_true, cond_true, cond_false, if_false, if_true, reduceIte, reduceCtorEq, not_true_eq_false, not_false_eq_true, true_and, and_true, forall_const, false_and, and_false, implies_true, Za2, Za3, Za4, Za5]
            refine invK.on (k + 1, .slice (some ⟨b4, 0, none⟩) (M.length + k + 1) cap4, [(b4, .cells (cellsV (M ++ (t.res.take k).map fun r => (p, t.id, r)) ++ ([.string (bs p), .string (bs t.id), .string (bs r)] : List Value) ++ sp4).toArray 44 (0, 0))]) ⟨by simp only; omega, OwnS.mk sp4 hF4 (by rw [htr, List.map_append, ← List.append_assoc, List.map_cons, List.map_nil, cellsV_snoc]) rfl (by rw [cellsV_len, List.length_append, List.length_map, List.length_take]; simp only; rw [Nat.min_eq_left (by omega)]) (by simpa [Nat.add_assoc] using hs4) (by simp only; omega) hm4, ?_⟩ (by simp only; omega) (by (simp only [Le_nil, Le_cons]; simp (disch := first | assumption | exact Ne.symm (by assumption) | omega) only [↓ZD, ZU, ne_eq, Zaa, Zab, false_implies, Zac, Zad, Zae, Zaf, Zag, Zah, Zai, Zaj, Zak, Zal, Zam, Zan, Zao, Zap, Zaq, Zar, Zas, Zat, Zau, Zav, Zaw, Zax, Zay, Zaz, Za0, Za1, decide_true, decide_false, beq_self_eq_true, cond_true, cond_false, if_false, if_true, reduceIte, reduceCtorEq, not_true_eq_false, not_false_eq_true, true_and, and_true, forall_const, false_and, and_false, implies_true, Za2, Za3, Za4, Za5]; try trivial)) ⟨by simp (disch := first | assumption | exact Ne.symm (by assumption) | omega) only [↓ZD, ZU, ne_eq, Zaa, Zab, false_implies, Zac, Zad, Zae, Zaf, Zag, Zah, Zai, Zaj, Zak, Zal, Zam, Zan, Zao, Zap, Zaq, Zar, Zas, Zat, Zau, Zav, Zaw, Zax, Zay, Zaz, Za0, Za1, decide_true, decide_false, beq_self_eq_true, cond_true, cond_false, if_false, if_true, reduceIte, reduceCtorEq, not_true_eq_false, not_false_eq_true, true_and, and_true, forall_const, false_and, and_false, implies_true, Za2, Za3, Za4, Za5], by simp (disch := first | assumption | exact Ne.symm (by assumption) | omega) only [↓ZD, ZU, ne_eq, Zaa, Zab, false_implies, Zac, Zad, Zae, Zaf, Zag, Zah, Zai, Zaj, Zak, Zal, Zam, Zan, Zao, Zap, Zaq, Zar, Zas, Zat, Zau, Zav, Zaw, Zax, Zay, Zaz, Za0, Za1, decide_true, decide_false, beq_self_eq_true, cond_true, cond_false, if_false, if_true, reduceIte, reduceCtorEq, not_true_eq_false, not_false_eq_true, true_and, and_true, forall_const, false_and, and_false, implies_true, Za2, Za3, Za4, Za5], trivial⟩
            intro e he
            simp only [List.mem_singleton] at he
            subst he
            exact fun h => hne4.1 h.symm
        · have hdk : decide ((k : Int) < (t.res.length : Int)) = false := by simp; omega
          obtain rfl : k = t.res.length := by omega
          rw [List.take_length] at ho3
          simp (disch := first | assumption | exact Ne.symm (by assumption) | omega) only [hdk, ↓ZD, ZU, ne_eq, Zaa, Zab, false_implies, Zac, Zad, Zae, Zaf, Zag, Zah, Zai, Zaj, Zak, Zal, Zam, Zan, Zao, Zap, Zaq, Zar, Zas, Zat, Zau, Zav, Zaw, Zax, Zay, Zaz, Za0, Za1, decide_true, decide_false, beq_self_eq_true, cond_true, cond_false, if_false, if_true, reduceIte, reduceCtorEq, not_true_eq_false, not_false_eq_true, true_and, and_true, forall_const, false_and, and_false, implies_true, Za2, Za3, Za4, Za5]
          refine invK.on (j + 1, v3, H3) ⟨by simp only; omega, ?_, hob3⟩ (by simp only; omega) (by (simp only [Le_nil, Le_cons]; simp (disch := first | assumption | exact Ne.symm (by assumption) | omega) only [↓ZD, ZU, ne_eq, Zaa, Zab, false_implies, Zac, Zad, Zae, Zaf, Zag, Zah, Zai, Zaj, Zak, Zal, Zam, Zan, Zao, Zap, Zaq, Zar, Zas, Zat, Zau, Zav, Zaw, Zax, Zay, Zaz, Za0, Za1, decide_true, decide_false, beq_self_eq_true, cond_true, cond_false, if_false, if_true, reduceIte, reduceCtorEq, not_true_eq_false, not_false_eq_true, true_and, and_true, forall_const, false_and, and_false, implies_true, Za2, Za3, Za4, Za5]; try trivial)) ⟨by simp (disch := first | assumption | exact Ne.symm (by assumption) | omega) only [↓ZD, ZU, ne_eq, Zaa, Zab, false_implies, Zac, Zad, Zae, Zaf, Zag, Zah, Zai, Zaj, Zak, Zal, Zam, Zan, Zao, Zap, Zaq, Zar, Zas, Zat, Zau, Zav, Zaw, Zax, Zay, Zaz, Za0, Za1, decide_true, decide_false, beq_self_eq_true, cond_true, cond_false, if_false, if_true, reduceIte, reduceCtorEq, not_true_eq_false, not_false_eq_true, true_and, and_true, forall_const, false_and, and_false, implies_true, Za2, Za3, Za4, Za5], ho3.hle [_] (by simp only [List.forall_mem_cons, List.not_mem_nil, false_implies, implies_true, and_true]; exact hob3)⟩
          simp only
          have e : (L ++ (t.prs.take (j + 1)).flatMap fun p => t.res.map fun r => ((p, t.id, r) : Env)) = M ++ t.res.map fun r => ((p, t.id, r) : Env) := by rw [htq, ← List.append_assoc, hM]
          have e2 : (M ++ t.res.map fun r => ((p, t.id, r) : Env)).length = M.length + t.res.length := by simp
          rw [← List.length_append, e, e2]
          exact ho3
      · have hdj : decide ((j : Int) < (t.prs.length : Int)) = false := by simp; omega
        obtain rfl : j = t.prs.length := by omega
        rw [List.take_length] at ho2
        simp (disch := first | assumption | exact Ne.symm (by assumption) | omega) only [hdj, ↓ZD, ZU, ne_eq, Zaa, Zab, false_implies, Zac, Zad, Zae, Zaf, Zag, Zah, Zai, Zaj, Zak, Zal, Zam, Zan, Zao, Zap, Zaq, Zar, Zas, Zat, Zau, Zav, Zaw, Zax, Zay, Zaz, Za0, Za1, decide_true, decide_false, beq_self_eq_true, cond_true, cond_false, if_false, if_true, reduceIte, reduceCtorEq, not_true_eq_false, not_false_eq_true, true_and, and_true, forall_const, false_and, and_false, implies_true, Za2, Za3, Za4, Za5]
        refine invK.on (i + 1, v2, H2) ⟨by simp only; omega, ?_⟩ (by simp only; omega) (by (simp only [Le_nil, Le_cons]; simp (disch := first | assumption | exact Ne.symm (by assumption) | omega) only [↓ZD, ZU, ne_eq, Zaa, Zab, false_implies, Zac, Zad, Zae, Zaf, Zag, Zah, Zai, Zaj, Zak, Zal, Zam, Zan, Zao, Zap, Zaq, Zar, Zas, Zat, Zau, Zav, Zaw, Zax, Zay, Zaz, Za0, Za1, decide_true, decide_false, beq_self_eq_true, cond_true, cond_false, if_false, if_true, reduceIte, reduceCtorEq, not_true_eq_false, not_false_eq_true, true_and, and_true, forall_const, false_and, and_false, implies_true, Za2, Za3, Za4, Za5]; try trivial)) ?_
        · simp only
          rw [hta]
          exact ho2
        · exact ho2.hle [_] (by simp only [List.forall_mem_cons, List.not_mem_nil, false_implies, implies_true, and_true]; exact hob2)
    · have hd : decide ((i : Int) < (xs.length : Int)) = false := by simp; omega
      obtain rfl : i = xs.length := by omega
      rw [List.take_length] at ho
      simp (disch := first | assumption | exact Ne.symm (by assumption) | omega) only [hd, ↓ZD, ZU, ne_eq, Zaa, Zab, false_implies, Zac, Zad, Zae, Zaf, Zag, Zah, Zai, Zaj, Zak, Zal, Zam, Zan, Zao, Zap, Zaq, Zar, Zas, Zat, Zau, Zav, Zaw, Zax, Zay, Zaz, Za0, Za1, decide_true, decide_false, beq_self_eq_true, cond_true, cond_false, if_false, if_true, reduceIte, reduceCtorEq, not_true_eq_false, not_false_eq_true, true_and, and_true, forall_const, false_and, and_false, implies_true, Za2, Za3, Za4, Za5]
      exact ⟨_, fun e he => he, ho⟩
end Go.Proofs.YtnnieekbklmgdaaDoor
