/- Layer 12: ways over more steps than one. -/
import Derived.Test.YtnnieekbklmgdaaDoorSyD
namespace Go.Proofs.YtnnieekbklmgdaaDoor
open Go Go.Eng
open Int renaming reduceEq → Zaa, reduceToNat → Zaw, reduceLE → Zax, reduceLT → Zay, reduceAdd → Zaz, reduceSub → Za0, reduceNeg → Za1, reducePow → Za3, reduceNegSucc → Za5
open UInt8 renaming reduceOfNat → Zab
open Go.Eng renaming subG → Zac, lit → Zad, isPar → Zae, numb → Zaf, Wf → Zag, resV → Zah, oneCell → Zai, isB → Zaj, asB → Zak
open List renaming mapM_cons → Zal, mapM_nil → Zam
open Go.Value renaming cells → Zan
open Nat renaming reduceAdd → Zao, reduceMul → Zap, reduceMod → Zaq, reduceDiv → Zar, reduceEqDiff → Zas, reduceBEq → Zat, reduceLeDiff → Zau, reduceSub → Zav, reducePow → Za2, reduceLT → Za4
set_option linter.unusedSimpArgs false
set_option linter.unusedVariables false
set_option maxRecDepth 20000

inductive Reach (n : Str → List Str) : Str → Str → Prop
  | one {a b : Str} : b ∈ n a → Reach n a b
  | step {a b c : Str} : Reach n a b → c ∈ n b → Reach n a c
theorem Reach.trans {n : Str → List Str} {a b c : Str} (h : Reach n a b) (h' : Reach n b c) : Reach n a c := by
  induction h' with
  | one h1 => exact .step h h1
  | step _ h1 ih => exact .step ih h1
/-- How many of U are not there yet. -/
def cnt (seen : List Str) : List Str → Nat
  | [] => 0
  | u :: U => (if u ∈ seen then 0 else 1) + cnt seen U
theorem cnt_le (seen : List Str) (k : Str) : ∀ U, cnt (seen ++ [k]) U ≤ cnt seen U
  | [] => Nat.le_refl _
  | u :: U => by
    have := cnt_le seen k U
    rw [cnt, cnt]
    by_cases h : u ∈ seen
    · rw [if_pos h, if_pos (List.mem_append_left _ h)]; omega
    · rw [if_neg h]; split <;> omega
theorem cnt_lt {seen : List Str} {k : Str} (hk : k ∉ seen) : ∀ {U}, k ∈ U → cnt (seen ++ [k]) U < cnt seen U
  | u :: U, h => by
    have := cnt_le seen k U
    rw [cnt, cnt]
    rcases List.mem_cons.1 h with rfl | h
    · rw [if_neg hk, if_pos (by simp)]; omega
    · have := cnt_lt hk h
      by_cases h2 : u ∈ seen
      · rw [if_pos h2, if_pos (List.mem_append_left _ h2)]; omega
      · rw [if_neg h2]; split <;> omega
theorem cnt_nil : ∀ U, cnt [] U = U.length
  | [] => rfl
  | u :: U => by rw [cnt, cnt_nil]; simp; omega
abbrev strs (l : List Str) : List Value := l.map fun s => .string (bs s)
theorem ldV_own {F : Base} {H : Hp} {b m : Nat} {c : Array Value} {T : Nat} {fz : Nat × Nat} (hF : F b = none) (hl : lk H b = some (.cells c T fz)) (hm : m < c.size) : ldV F H 1 false (.pointer (some ⟨b, m, none⟩)) = some (True, c.toList.getD m undef) := by
  rw [ldV_of, cellsAt_O, rdObj_own hF, hl]
  have : cellsO (some (.cells c T fz)) m 1 = some ((c.toList.drop m).take 1) := by
    unfold cellsO
    simp only
    rw [if_pos (by omega)]
  rw [this, ldC_one]
  have hm' : m < c.toList.length := by simpa using hm
  rw [List.drop_eq_getElem_cons hm']
  simp [List.getD_eq_getElem?_getD, hm]
theorem own_pop {F : Base} {T : Nat} {l : List Str} {x : Str} {v : Value} {Ho : Hp} (h : OwnS F 1 T (strs (l ++ [x])) (l.length + 1) v Ho) : ∃ b cap sp, v = .slice (some ⟨b, 0, none⟩) (l.length + 1) cap ∧ Ho = [(b, .cells (strs (l ++ [x]) ++ sp).toArray T (0, 0))] ∧ F b = none ∧ l.length + 1 ≤ cap ∧ cap ≤ 9223372036854775807 ∧
    OwnS F 1 T (strs l) l.length (.slice (some ⟨b, 0, none⟩) l.length cap) Ho := by
  rcases h.out with ⟨-, h, -⟩ | ⟨b, cap, sp, rfl, rfl, hF, hl, hs, hc, hm⟩
  · omega
  · refine ⟨b, cap, sp, rfl, rfl, hF, hc, hm, ?_⟩
    exact OwnS.mk (.string (bs x) :: sp) hF (by simp [strs]) rfl (by simp [strs]) (by simp [hs]; omega) (by omega) hm
open Classical in
theorem leads_pure (F : Base) (low high : Str) (fv : Value) (n : Str → List Str) (U : List Str) (hU : ∀ x y, y ∈ n x → y ∈ U) (hUl : U.length ≤ 100000) (hn : ∀ x, ∃ v, SlS F v (n x) ∧ PureF Tryd.prog F fv [.string (bs x)] v) :
    PureV Tryd.prog F 30 #[.string (bs low), .string (bs high), fv] (.bool (decide (Reach n low high))) := by
  refine pureV_of_svc mixed Tryd.func30 low30 (Nat.le_of_ble_eq_true rfl) (fun w0 => ?_)
  simp (disch := first | assumption | exact Ne.symm (by assumption) | omega) only [fu30, ↓ZD, ZU, ne_eq, Zaa, Zab, false_implies, Zac, Zad, Zae, Zaf, Zag, Zah, Zai, Zaj, Zak, Zal, Zam, Zan, Zao, Zap, Zaq, Zar, Zas, Zat, Zau, Zav, Zaw, Zax, Zay, Zaz, Za0, Za1, decide_true, decide_false, beq_self_eq_true, cond_true, cond_false, if_false, if_true, reduceIte, reduceCtorEq, not_true_eq_false, not_false_eq_true, true_and, and_true, forall_const, false_and, and_false, implies_true, Za2, Za3, Za4, Za5]
  refine EfL.mkMap fun bm hbm hFm => ?_
  simp (disch := first | assumption | exact Ne.symm (by assumption) | omega) only [hFm, ↓ZD, ZU, ne_eq, Zaa, Zab, false_implies, Zac, Zad, Zae, Zaf, Zag, Zah, Zai, Zaj, Zak, Zal, Zam, Zan, Zao, Zap, Zaq, Zar, Zas, Zat, Zau, Zav, Zaw, Zax, Zay, Zaz, Za0, Za1, decide_true, decide_false, beq_self_eq_true, cond_true, cond_false, if_false, if_true, reduceIte, reduceCtorEq, not_true_eq_false, not_false_eq_true, true_and, and_true, forall_const, false_and, and_false, implies_true, Za2, Za3, Za4, Za5]
  refine NewB.of fun b0 hb0 hF0 => ?_
  simp only [List.forall_mem_cons] at hb0
  obtain ⟨hb0, -⟩ := hb0
  simp (disch := first | assumption | exact Ne.symm (by assumption) | omega) only [hFm, hF0, ↓ZD, ZU, ne_eq, Zaa, Zab, false_implies, Zac, Zad, Zae, Zaf, Zag, Zah, Zai, Zaj, Zak, Zal, Zam, Zan, Zao, Zap, Zaq, Zar, Zas, Zat, Zau, Zav, Zaw, Zax, Zay, Zaz, Za0, Za1, decide_true, decide_false, beq_self_eq_true, cond_true, cond_false, if_false, if_true, reduceIte, reduceCtorEq, not_true_eq_false, not_false_eq_true, true_and, and_true, forall_const, false_and, and_false, implies_true, Za2, Za3, Za4, Za5]
  refine LoopL.inv (α := List Str × List Str × Value × Hp) (fun z => OwnS F 1 9 (strs z.1) z.1.length z.2.2.1 z.2.2.2 ∧ (∀ e ∈ z.2.2.2, e.1 ≠ bm) ∧ z.1.length + cnt z.2.1 U ≤ U.length + 1 ∧
      (∀ x ∈ z.1, x = low ∨ Reach n low x) ∧ (∀ x ∈ z.2.1, Reach n low x) ∧ ∀ x, (x = low ∨ x ∈ z.2.1) → x ∈ z.1 ∨ ∀ y ∈ n x, y ∈ z.2.1 ∧ y ≠ high)
    (fun z => [(1, some (.string (bs high))), (2, some fv), (7, some (.map (some bm))), (8, some z.2.2.1)])
    (fun z => (bm, MapK z.2.1) :: z.2.2.2) (fun z => 2 * cnt z.2.1 U + z.1.length)
    ([low], [], .slice (some ⟨b0, 0, none⟩) 1 1, [(b0, .cells #[.string (bs low)] 9 (0, 0))]) ⟨?_, ?_, ?_, ?_, ?_, ?_⟩ (by (simp only [Le_nil, Le_cons]; simp (disch := first | assumption | exact Ne.symm (by assumption) | omega) only [↓ZD, ZU, ne_eq, Zaa, Zab, false_implies, Zac, Zad, Zae, Zaf, Zag, Zah, Zai, Zaj, Zak, Zal, Zam, Zan, Zao, Zap, Zaq, Zar, Zas, Zat, Zau, Zav, Zaw, Zax, Zay, Zaz, Za0, Za1, decide_true, decide_false, beq_self_eq_true, cond_true, cond_false, if_false, if_true, reduceIte, reduceCtorEq, not_true_eq_false, not_false_eq_true, true_and, and_true, forall_const, false_and, and_false, implies_true, Za2, Za3, Za4, Za5]; try trivial)) ?_ ?_
  · exact OwnS.mk (cs := strs [low]) [] hF0 rfl rfl rfl rfl (Nat.le_refl _) (by omega)
  · intro e he
    simp only [List.mem_singleton] at he
    subst he
    exact fun h => hb0 h.symm
  · simp only [cnt_nil, List.length_singleton]; omega
  · intro x hx
    exact .inl (by simpa using hx)
  · intro x hx; cases hx
  · intro x hx
    simp only [List.not_mem_nil, or_false] at hx
    exact .inl (by simp [hx])
  · refine ⟨?_, ?_, trivial⟩
    · simp (disch := first | assumption | exact Ne.symm (by assumption) | omega) only [↓ZD, ZU, ne_eq, Zaa, Zab, false_implies, Zac, Zad, Zae, Zaf, Zag, Zah, Zai, Zaj, Zak, Zal, Zam, Zan, Zao, Zap, Zaq, Zar, Zas, Zat, Zau, Zav, Zaw, Zax, Zay, Zaz, Za0, Za1, decide_true, decide_false, beq_self_eq_true, cond_true, cond_false, if_false, if_true, reduceIte, reduceCtorEq, not_true_eq_false, not_false_eq_true, true_and, and_true, forall_const, false_and, and_false, implies_true, Za2, Za3, Za4, Za5]
      rfl
    · simp (disch := first | assumption | exact Ne.symm (by assumption) | omega) only [↓ZD, ZU, ne_eq, Zaa, Zab, false_implies, Zac, Zad, Zae, Zaf, Zag, Zah, Zai, Zaj, Zak, Zal, Zam, Zan, Zao, Zap, Zaq, Zar, Zas, Zat, Zau, Zav, Zaw, Zax, Zay, Zaz, Za0, Za1, decide_true, decide_false, beq_self_eq_true, cond_true, cond_false, if_false, if_true, reduceIte, reduceCtorEq, not_true_eq_false, not_false_eq_true, true_and, and_true, forall_const, false_and, and_false, implies_true, Za2, Za3, Za4, Za5]
  rintro ⟨left, seen, v, Ho⟩ ⟨ho, hob, hlen, hleft, hseen, hcl⟩
  simp only at ho hob hlen hleft hseen hcl
  rcases List.eq_nil_or_concat left with rfl | ⟨l', name, rfl⟩
  · -- nothing left
    obtain ⟨base, cap, rfl, -⟩ := ho.len_le
    have hd : decide ((0 : Int) < ((([] : List Str).length : Nat) : Int)) = false := by simp
    have hno : ¬ Reach n low high := by
      have : ∀ y, Reach n low y → y ∈ seen ∧ y ≠ high := by
        intro y h
        generalize hlo : low = lo at h
        induction h with
        | one h1 => subst hlo; exact ((hcl _ (.inl rfl)).resolve_left (by simp)) _ h1
        | step h1 h2 ih => exact ((hcl _ (.inr ih.1)).resolve_left (by simp)) _ h2
      exact fun h => (this high h).2 rfl
    have hr : decide (Reach n low high) = false := by simpa using hno
    simp (disch := first | assumption | exact Ne.symm (by assumption) | omega) only [hd, hr, ↓ZD, ZU, ne_eq, Zaa, Zab, false_implies, Zac, Zad, Zae, Zaf, Zag, Zah, Zai, Zaj, Zak, Zal, Zam, Zan, Zao, Zap, Zaq, Zar, Zas, Zat, Zau, Zav, Zaw, Zax, Zay, Zaz, Za0, Za1, decide_true, decide_false, beq_self_eq_true, cond_true, cond_false, if_false, if_true, reduceIte, reduceCtorEq, not_true_eq_false, not_false_eq_true, true_and, and_true, forall_const, false_and, and_false, implies_true, Za2, Za3, Za4, Za5]
  · rw [List.concat_eq_append] at *
    rw [List.length_append, List.length_singleton] at ho hlen
    obtain ⟨b, cap, sp, rfl, rfl, hF, hc, hm, ho'⟩ := own_pop ho
    have hbm' : bm ≠ b := fun h => hob _ (List.mem_singleton.2 rfl) h.symm
    have hd : decide ((0 : Int) < ((l'.length + 1 : Nat) : Int)) = true := by simp
    have e1 : ((l'.length + 1 : Nat) : Int) - 1 = (l'.length : Int) := by omega
    have hld := ldV_own (F := F) (H := (bm, MapK seen) :: [(b, .cells (strs (l' ++ [name]) ++ sp).toArray 9 (0, 0))]) (b := b) (m := l'.length) (c := (strs (l' ++ [name]) ++ sp).toArray) (T := 9) (fz := (0, 0)) hF (by simp (disch := first | assumption | exact Ne.symm (by assumption) | omega) only [↓ZD, ZU, ne_eq, Zaa, Zab, false_implies, Zac, Zad, Zae, Zaf, Zag, Zah, Zai, Zaj, Zak, Zal, Zam, Zan, Zao, Zap, Zaq, Zar, Zas, Zat, Zau, Zav, Zaw, Zax, Zay, Zaz, Za0, Za1, decide_true, decide_false, beq_self_eq_true, cond_true, cond_false, if_false, if_true, reduceIte, reduceCtorEq, not_true_eq_false, not_false_eq_true, true_and, and_true, forall_const, false_and, and_false, implies_true, Za2, Za3, Za4, Za5]) (by simp [strs])
    have hget : (strs (l' ++ [name]) ++ sp).toArray.toList.getD l'.length undef = .string (bs name) := by
      simp [strs, List.getD_eq_getElem?_getD]
    rw [hget] at hld
    simp (disch := first | assumption | exact Ne.symm (by assumption) | omega) only [hd, e1, Nat.mul_one, Nat.zero_add, ↓ZD, ZU, ne_eq, Zaa, Zab, false_implies, Zac, Zad, Zae, Zaf, Zag, Zah, Zai, Zaj, Zak, Zal, Zam, Zan, Zao, Zap, Zaq, Zar, Zas, Zat, Zau, Zav, Zaw, Zax, Zay, Zaz, Za0, Za1, decide_true, decide_false, beq_self_eq_true, cond_true, cond_false, if_false, if_true, reduceIte, reduceCtorEq, not_true_eq_false, not_false_eq_true, true_and, and_true, forall_const, false_and, and_false, implies_true, Za2, Za3, Za4, Za5]
    refine conj.of (by omega) ?_
    simp (disch := first | assumption | exact Ne.symm (by assumption) | omega) only [hd, e1, Nat.mul_one, Nat.zero_add, Int.toNat_natCast, ↓hld, ↓ZD, ZU, ne_eq, Zaa, Zab, false_implies, Zac, Zad, Zae, Zaf, Zag, Zah, Zai, Zaj, Zak, Zal, Zam, Zan, Zao, Zap, Zaq, Zar, Zas, Zat, Zau, Zav, Zaw, Zax, Zay, Zaz, Za0, Za1, decide_true, decide_false, beq_self_eq_true, cond_true, cond_false, if_false, if_true, reduceIte, reduceCtorEq, not_true_eq_false, not_false_eq_true, true_and, and_true, forall_const, false_and, and_false, implies_true, Za2, Za3, Za4, Za5]
    refine conj.of (by omega) ?_
    obtain ⟨vn, ⟨an, cn, rfl, hcn, hln, hsn⟩, hpn⟩ := hn name
    have hname := hleft name (by simp)
    have e2 : ((l'.length : Int) - 0).toNat = l'.length := by omega
    have e3 : (l'.length : Int).toNat - 0 = l'.length := by omega
    simp (disch := first | assumption | exact Ne.symm (by assumption) | omega) only [hd, e1, e2, Nat.mul_one, Nat.zero_add, Int.toNat_natCast, Int.sub_zero, Nat.sub_zero, ↓ZD, ZU, ne_eq, Zaa, Zab, false_implies, Zac, Zad, Zae, Zaf, Zag, Zah, Zai, Zaj, Zak, Zal, Zam, Zan, Zao, Zap, Zaq, Zar, Zas, Zat, Zau, Zav, Zaw, Zax, Zay, Zaz, Za0, Za1, decide_true, decide_false, beq_self_eq_true, cond_true, cond_false, if_false, if_true, reduceIte, reduceCtorEq, not_true_eq_false, not_false_eq_true, true_and, and_true, forall_const, false_and, and_false, implies_true, Za2, Za3, Za4, Za5]
    refine CallEF.pure hpn ?_
    simp (disch := first | assumption | exact Ne.symm (by assumption) | omega) only [hd, e1, e2, Nat.mul_one, Nat.zero_add, Int.toNat_natCast, Int.sub_zero, Nat.sub_zero, ↓ZD, ZU, ne_eq, Zaa, Zab, false_implies, Zac, Zad, Zae, Zaf, Zag, Zah, Zai, Zaj, Zak, Zal, Zam, Zan, Zao, Zap, Zaq, Zar, Zas, Zat, Zau, Zav, Zaw, Zax, Zay, Zaz, Za0, Za1, decide_true, decide_false, beq_self_eq_true, cond_true, cond_false, if_false, if_true, reduceIte, reduceCtorEq, not_true_eq_false, not_false_eq_true, true_and, and_true, forall_const, false_and, and_false, implies_true, Za2, Za3, Za4, Za5]
    refine LoopL.inv (α := Nat × List Str × List Str × Value × Hp) (fun z => z.1 ≤ (n name).length ∧ OwnS F 1 9 (strs z.2.1) z.2.1.length z.2.2.2.1 z.2.2.2.2 ∧ (∀ e ∈ z.2.2.2.2, e.1 ≠ bm) ∧ z.2.1.length + cnt z.2.2.1 U ≤ U.length + 1 ∧
        2 * cnt z.2.2.1 U + z.2.1.length ≤ 2 * cnt seen U + l'.length ∧
        (∀ x ∈ z.2.1, x = low ∨ Reach n low x) ∧ (∀ x ∈ z.2.2.1, Reach n low x) ∧ (∀ y ∈ (n name).take z.1, y ∈ z.2.2.1 ∧ y ≠ high) ∧ ∀ x, (x = low ∨ x ∈ z.2.2.1) → x ∈ z.2.1 ∨ x = name ∨ ∀ y ∈ n x, y ∈ z.2.2.1 ∧ y ≠ high)
      (fun z => [(1, some (.string (bs high))), (2, some fv), (7, some (.map (some bm))), (8, some z.2.2.2.1), (31, some (.slice an (n name).length cn)), (32, some (.int .i64 (n name).length)), (33, some (.int .i64 z.1))])
      (fun z => (bm, MapK z.2.2.1) :: z.2.2.2.2) (fun z => (n name).length - z.1)
      (0, l', seen, .slice (some ⟨b, 0, none⟩) l'.length cap, [(b, .cells (strs (l' ++ [name]) ++ sp).toArray 9 (0, 0))]) ⟨Nat.zero_le _, ho', hob, by simp only; omega, by simp only; omega, fun x hx => hleft x (List.mem_append_left _ hx), hseen, by simp, fun x hx => ?_⟩ (by (simp only [Le_nil, Le_cons]; simp (disch := first | assumption | exact Ne.symm (by assumption) | omega) only [↓ZD, ZU, ne_eq, Zaa, Zab, false_implies, Zac, Zad, Zae, Zaf, Zag, Zah, Zai, Zaj, Zak, Zal, Zam, Zan, Zao, Zap, Zaq, Zar, Zas, Zat, Zau, Zav, Zaw, Zax, Zay, Zaz, Za0, Za1, decide_true, decide_false, beq_self_eq_true, cond_true, cond_false, if_false, if_true, reduceIte, reduceCtorEq, not_true_eq_false, not_false_eq_true, true_and, and_true, forall_const, false_and, and_false, implies_true, Za2, Za3, Za4, Za5]; try trivial)) ⟨by simp (disch := first | assumption | exact Ne.symm (by assumption) | omega) only [↓ZD, ZU, ne_eq, Zaa, Zab, false_implies, Zac, Zad, Zae, Zaf, Zag, Zah, Zai, Zaj, Zak, Zal, Zam, Zan, Zao, Zap, Zaq, Zar, Zas, Zat, Zau, Zav, Zaw, Zax, Zay, Zaz, Za0, Za1, decide_true, decide_false, beq_self_eq_true, cond_true, cond_false, if_false, if_true, reduceIte, reduceCtorEq, not_true_eq_false, not_false_eq_true, true_and, and_true, forall_const, false_and, and_false, implies_true, Za2, Za3, Za4, Za5], by simp (disch := first | assumption | exact Ne.symm (by assumption) | omega) only [↓ZD, ZU, ne_eq, Zaa, Zab, false_implies, Zac, Zad, Zae, Zaf, Zag, Zah, Zai, Zaj, Zak, Zal, Zam, Zan, Zao, Zap, Zaq, Zar, Zas, Zat, Zau, Zav, Zaw, Zax, Zay, Zaz, Za0, Za1, decide_true, decide_false, beq_self_eq_true, cond_true, cond_false, if_false, if_true, reduceIte, reduceCtorEq, not_true_eq_false, not_false_eq_true, true_and, and_true, forall_const, false_and, and_false, implies_true, Za2, Za3, Za4, Za5], trivial⟩ ?_
    · rcases hcl x hx with h | h
      · rcases List.mem_append.1 h with h | h
        · exact .inl h
        · exact .inr (.inl (by simpa using h))
      · exact .inr (.inr h)
    rintro ⟨j, L, S, v, Hq⟩ ⟨hj, hoq, hqb, hlq, hmu, hL, hS, hdone, hC⟩
    simp only at hj hoq hqb hlq hmu hL hS hdone hC
    by_cases hlt : j < (n name).length
    · have hdj : decide ((j : Int) < ((n name).length : Int)) = true := by simp; omega
      have gx := getS hlt
      obtain ⟨ba, oa, rfl, hla⟩ := (hsn.1 j _ gx).ld1
      simp only [Nat.mul_one] at hla
      simp (disch := first | assumption | exact Ne.symm (by assumption) | omega) only [hdj, Nat.mul_one, ↓ZD, ZU, ne_eq, Zaa, Zab, false_implies, Zac, Zad, Zae, Zaf, Zag, Zah, Zai, Zaj, Zak, Zal, Zam, Zan, Zao, Zap, Zaq, Zar, Zas, Zat, Zau, Zav, Zaw, Zax, Zay, Zaz, Za0, Za1, decide_true, decide_false, beq_self_eq_true, cond_true, cond_false, if_false, if_true, reduceIte, reduceCtorEq, not_true_eq_false, not_false_eq_true, true_and, and_true, forall_const, false_and, and_false, implies_true, Za2, Za3, Za4, Za5]
      refine conj.of (by omega) ?_
      simp (disch := first | assumption | exact Ne.symm (by assumption) | omega) only [hdj, Int.toNat_natCast, Nat.mul_one, ↓hla, ↓ZD, ZU, ne_eq, Zaa, Zab, false_implies, Zac, Zad, Zae, Zaf, Zag, Zah, Zai, Zaj, Zak, Zal, Zam, Zan, Zao, Zap, Zaq, Zar, Zas, Zat, Zau, Zav, Zaw, Zax, Zay, Zaz, Za0, Za1, decide_true, decide_false, beq_self_eq_true, cond_true, cond_false, if_false, if_true, reduceIte, reduceCtorEq, not_true_eq_false, not_false_eq_true, true_and, and_true, forall_const, false_and, and_false, implies_true, Za2, Za3, Za4, Za5]
      have hkm : (n name).getD j [] ∈ n name := List.mem_of_getElem? gx
      have hts := take_snoc gx
      have hkU := hU name _ hkm
      revert hkm hts hkU
      generalize (n name).getD j [] = k
      intro hkm hts hkU
      have hrk : Reach n low k := by
        rcases hname with rfl | h
        · exact .one hkm
        · exact .step h hkm
      refine ⟨fun he => ?_, fun he => ?_⟩
      · have he : k = high := by simpa using he
        subst he
        rw [show decide (Reach n low k) = true from by simpa using hrk]
      have hkh : k ≠ high := by simpa using he
      refine EfL.getK hFm lk_eq ?_
      simp (disch := first | assumption | exact Ne.symm (by assumption) | omega) only [hFm, ↓ZD, ZU, ne_eq, Zaa, Zab, false_implies, Zac, Zad, Zae, Zaf, Zag, Zah, Zai, Zaj, Zak, Zal, Zam, Zan, Zao, Zap, Zaq, Zar, Zas, Zat, Zau, Zav, Zaw, Zax, Zay, Zaz, Za0, Za1, decide_true, decide_false, beq_self_eq_true, cond_true, cond_false, if_false, if_true, reduceIte, reduceCtorEq, not_true_eq_false, not_false_eq_true, true_and, and_true, forall_const, false_and, and_false, implies_true, Za2, Za3, Za4, Za5]
      refine ⟨fun hm => ?_, fun hm => ?_⟩
      · have hkS : k ∉ S := by simpa using hm
        refine EfL.setK hFm lk_eq hkS ?_
        have hupm : ∀ o, upd Hq bm o = Hq := fun o => upd_new hqb
        simp (disch := first | assumption | exact Ne.symm (by assumption) | omega) only [hFm, hupm, ↓ZD, ZU, ne_eq, Zaa, Zab, false_implies, Zac, Zad, Zae, Zaf, Zag, Zah, Zai, Zaj, Zak, Zal, Zam, Zan, Zao, Zap, Zaq, Zar, Zas, Zat, Zau, Zav, Zaw, Zax, Zay, Zaz, Za0, Za1, decide_true, decide_false, beq_self_eq_true, cond_true, cond_false, if_false, if_true, reduceIte, reduceCtorEq, not_true_eq_false, not_false_eq_true, true_and, and_true, forall_const, false_and, and_false, implies_true, Za2, Za3, Za4, Za5]
        refine NewB.of fun b2 hb2 hF2 => ?_
        simp only [List.forall_mem_cons] at hb2
        obtain ⟨hb2m, hb2⟩ := hb2
        simp (disch := first | assumption | exact Ne.symm (by assumption) | omega) only [hFm, hF2, ↓ZD, ZU, ne_eq, Zaa, Zab, false_implies, Zac, Zad, Zae, Zaf, Zag, Zah, Zai, Zaj, Zak, Zal, Zam, Zan, Zao, Zap, Zaq, Zar, Zas, Zat, Zau, Zav, Zaw, Zax, Zay, Zaz, Za0, Za1, decide_true, decide_false, beq_self_eq_true, cond_true, cond_false, if_false, if_true, reduceIte, reduceCtorEq, not_true_eq_false, not_false_eq_true, true_and, and_true, forall_const, false_and, and_false, implies_true, Za2, Za3, Za4, Za5]
        refine EfL.grow (Hr := [(bm, MapK (S ++ [k]))]) (m := 1) (nw := [.string (bs k)]) hoq (hoq.lk [_, _] (by simp only [List.forall_mem_cons, List.not_mem_nil, false_implies, implies_true, and_true]; exact ⟨hb2, hqb⟩)) (by simp) (by simp only [List.forall_mem_cons]; exact ⟨hqb, fun e he => by cases he⟩) ?_ rfl (by simp [oneCell]) (by simp) (by omega) ?_
        · simp (disch := first | assumption | exact Ne.symm (by assumption) | omega) only [hF2, ↓ZD, ZU, ne_eq, Zaa, Zab, false_implies, Zac, Zad, Zae, Zaf, Zag, Zah, Zai, Zaj, Zak, Zal, Zam, Zan, Zao, Zap, Zaq, Zar, Zas, Zat, Zau, Zav, Zaw, Zax, Zay, Zaz, Za0, Za1, decide_true, decide_false, beq_self_eq_true, cond_true, cond_false, if_false, if_true, reduceIte, reduceCtorEq, not_true_eq_false, not_false_eq_true, true_and, and_true, forall_const, false_and, and_false, implies_true, Za2, Za3, Za4, Za5]
        · intro b3 cap3 sp3 hs3 hc3 hm3 hF3 hne3
          simp only [List.forall_mem_cons] at hne3
          simp (disch := first | assumption | exact Ne.symm (by assumption) | omega) only [↓ZD, ZU, ne_eq, Zaa, Zab, false_implies, Zac, Zad, Zae, Zaf, Zag, Zah, Zai, Zaj, Zak, Zal, Zam, Zan, Zao, Zap, Zaq, Zar, Zas, Zat, Zau, Zav, Zaw, Zax, Zay, Zaz, Za0, Za1, decide_true, decide_false, beq_self_eq_true, cond_true, cond_false, if_false, if_true, reduceIte, reduceCtorEq, not_true_eq_false, not_false_eq_true, true_and, and_true, forall_const, false_and, and_false, implies_true, Za2, Za3, Za4, Za5]
          have hcn := cnt_lt hkS hkU
          refine invK.on (j + 1, L ++ [k], S ++ [k], .slice (some ⟨b3, 0, none⟩) (L.length + 1) cap3, [(b3, .cells (strs L ++ ([.string (bs k)] : List Value) ++ sp3).toArray 9 (0, 0))]) ⟨by simp only; omega, OwnS.mk sp3 hF3 (by simp [strs]) (by simp) (by simp [strs]) (by simpa using hs3) (by simpa using hc3) hm3, ?_, ?_, ?_, ?_, ?_, ?_, ?_⟩ (by simp only; omega) (by (simp only [Le_nil, Le_cons]; simp (disch := first | assumption | exact Ne.symm (by assumption) | omega) only [↓ZD, ZU, ne_eq, Zaa, Zab, false_implies, Zac, Zad, Zae, Zaf, Zag, Zah, Zai, Zaj, Zak, Zal, Zam, Zan, Zao, Zap, Zaq, Zar, Zas, Zat, Zau, Zav, Zaw, Zax, Zay, Zaz, Za0, Za1, decide_true, decide_false, beq_self_eq_true, cond_true, cond_false, if_false, if_true, reduceIte, reduceCtorEq, not_true_eq_false, not_false_eq_true, true_and, and_true, forall_const, false_and, and_false, implies_true, Za2, Za3, Za4, Za5]; try trivial)) ⟨by simp (disch := first | assumption | exact Ne.symm (by assumption) | omega) only [↓ZD, ZU, ne_eq, Zaa, Zab, false_implies, Zac, Zad, Zae, Zaf, Zag, Zah, Zai, Zaj, Zak, Zal, Zam, Zan, Zao, Zap, Zaq, Zar, Zas, Zat, Zau, Zav, Zaw, Zax, Zay, Zaz, Za0, Za1, decide_true, decide_false, beq_self_eq_true, cond_true, cond_false, if_false, if_true, reduceIte, reduceCtorEq, not_true_eq_false, not_false_eq_true, true_and, and_true, forall_const, false_and, and_false, implies_true, Za2, Za3, Za4, Za5], by simp (disch := first | assumption | exact Ne.symm (by assumption) | omega) only [↓ZD, ZU, ne_eq, Zaa, Zab, false_implies, Zac, Zad, Zae, Zaf, Zag, Zah, Zai, Zaj, Zak, Zal, Zam, Zan, Zao, Zap, Zaq, Zar, Zas, Zat, Zau, Zav, Zaw, Zax, Zay, Zaz, Za0, Za1, decide_true, decide_false, beq_self_eq_true, cond_true, cond_false, if_false, if_true, reduceIte, reduceCtorEq, not_true_eq_false, not_false_eq_true, true_and, and_true, forall_const, false_and, and_false, implies_true, Za2, Za3, Za4, Za5], trivial⟩
          · intro e he
            simp only [List.mem_singleton] at he
            subst he
            exact fun h => hne3.1 h.symm
          · simp only [List.length_append, List.length_singleton]; omega
          · simp only [List.length_append, List.length_singleton]; omega
          · intro x hx
            rcases List.mem_append.1 hx with h | h
            · exact hL x h
            · rw [List.mem_singleton] at h; subst h; exact .inr hrk
          · intro x hx
            rcases List.mem_append.1 hx with h | h
            · exact hS x h
            · rw [List.mem_singleton] at h; subst h; exact hrk
          · intro y hy
            rw [hts, List.mem_append, List.mem_singleton] at hy
            rcases hy with h | rfl
            · exact ⟨List.mem_append_left _ (hdone y h).1, (hdone y h).2⟩
            · exact ⟨by simp, hkh⟩
          · intro x hx
            have up : (∀ y ∈ n x, y ∈ S ∧ y ≠ high) → ∀ y ∈ n x, y ∈ S ++ [k] ∧ y ≠ high := fun h y hy => ⟨List.mem_append_left _ (h y hy).1, (h y hy).2⟩
            rcases hx with hx | hx
            · rcases hC x (.inl hx) with h | h | h
              · exact .inl (List.mem_append_left _ h)
              · exact .inr (.inl h)
              · exact .inr (.inr (up h))
            · rcases List.mem_append.1 hx with hx | hx
              · rcases hC x (.inr hx) with h | h | h
                · exact .inl (List.mem_append_left _ h)
                · exact .inr (.inl h)
                · exact .inr (.inr (up h))
              · exact .inl (List.mem_append_right _ hx)
      · have hkS : k ∈ S := by simpa using hm
        refine invK.on (j + 1, L, S, v, Hq) ⟨by simp only; omega, hoq, hqb, hlq, hmu, hL, hS, ?_, hC⟩ (by simp only; omega) (by (simp only [Le_nil, Le_cons]; simp (disch := first | assumption | exact Ne.symm (by assumption) | omega) only [↓ZD, ZU, ne_eq, Zaa, Zab, false_implies, Zac, Zad, Zae, Zaf, Zag, Zah, Zai, Zaj, Zak, Zal, Zam, Zan, Zao, Zap, Zaq, Zar, Zas, Zat, Zau, Zav, Zaw, Zax, Zay, Zaz, Za0, Za1, decide_true, decide_false, beq_self_eq_true, cond_true, cond_false, if_false, if_true, reduceIte, reduceCtorEq, not_true_eq_false, not_false_eq_true, true_and, and_true, forall_const, false_and, and_false, implies_true, Za2, Za3, Za4, Za5]; try trivial)) ⟨by simp (disch := first | assumption | exact Ne.symm (by assumption) | omega) only [↓ZD, ZU, ne_eq, Zaa, Zab, false_implies, Zac, Zad, Zae, Zaf, Zag, Zah, Zai, Zaj, Zak, Zal, Zam, Zan, Zao, Zap, Zaq, Zar, Zas, Zat, Zau, Zav, Zaw, Zax, Zay, Zaz, Za0, Za1, decide_true, decide_false, beq_self_eq_true, cond_true, cond_false, if_false, if_true, reduceIte, reduceCtorEq, not_true_eq_false, not_false_eq_true, true_and, and_true, forall_const, false_and, and_false, implies_true, Za2, Za3, Za4, Za5], hoq.hle [_] (by simp only [List.forall_mem_cons, List.not_mem_nil, false_implies, implies_true, and_true]; exact hqb)⟩
        intro y hy
        rw [hts, List.mem_append, List.mem_singleton] at hy
        rcases hy with h | rfl
        · exact hdone y h
        · exact ⟨hkS, hkh⟩
    · have hdj : decide ((j : Int) < ((n name).length : Int)) = false := by simp; omega
      obtain rfl : j = (n name).length := by omega
      rw [List.take_length] at hdone
      simp (disch := first | assumption | exact Ne.symm (by assumption) | omega) only [hdj, ↓ZD, ZU, ne_eq, Zaa, Zab, false_implies, Zac, Zad, Zae, Zaf, Zag, Zah, Zai, Zaj, Zak, Zal, Zam, Zan, Zao, Zap, Zaq, Zar, Zas, Zat, Zau, Zav, Zaw, Zax, Zay, Zaz, Za0, Za1, decide_true, decide_false, beq_self_eq_true, cond_true, cond_false, if_false, if_true, reduceIte, reduceCtorEq, not_true_eq_false, not_false_eq_true, true_and, and_true, forall_const, false_and, and_false, implies_true, Za2, Za3, Za4, Za5]
      refine invK.on (L, S, v, Hq) ⟨hoq, hqb, hlq, hL, hS, fun x hx => ?_⟩ (by simp only [List.length_append, List.length_singleton]; omega) (by (simp only [Le_nil, Le_cons]; simp (disch := first | assumption | exact Ne.symm (by assumption) | omega) only [↓ZD, ZU, ne_eq, Zaa, Zab, false_implies, Zac, Zad, Zae, Zaf, Zag, Zah, Zai, Zaj, Zak, Zal, Zam, Zan, Zao, Zap, Zaq, Zar, Zas, Zat, Zau, Zav, Zaw, Zax, Zay, Zaz, Za0, Za1, decide_true, decide_false, beq_self_eq_true, cond_true, cond_false, if_false, if_true, reduceIte, reduceCtorEq, not_true_eq_false, not_false_eq_true, true_and, and_true, forall_const, false_and, and_false, implies_true, Za2, Za3, Za4, Za5]; try trivial)) ⟨by simp (disch := first | assumption | exact Ne.symm (by assumption) | omega) only [↓ZD, ZU, ne_eq, Zaa, Zab, false_implies, Zac, Zad, Zae, Zaf, Zag, Zah, Zai, Zaj, Zak, Zal, Zam, Zan, Zao, Zap, Zaq, Zar, Zas, Zat, Zau, Zav, Zaw, Zax, Zay, Zaz, Za0, Za1, decide_true, decide_false, beq_self_eq_true, cond_true, cond_false, if_false, if_true, reduceIte, reduceCtorEq, not_true_eq_false, not_false_eq_true, true_and, and_true, forall_const, false_and, and_false, implies_true, Za2, Za3, Za4, Za5], hoq.hle [_] (by simp only [List.forall_mem_cons, List.not_mem_nil, false_implies, implies_true, and_true]; exact hqb)⟩
      rcases hC x hx with h | h | h
      · exact .inl h
      · subst h; exact .inr hdone
      · exact .inr h
end Go.Proofs.YtnnieekbklmgdaaDoor
