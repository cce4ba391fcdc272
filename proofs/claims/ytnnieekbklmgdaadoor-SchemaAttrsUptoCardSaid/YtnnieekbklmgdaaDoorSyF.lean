/- Layer 12: ways, of the reference; what is above, of both. -/
import Derived.Test.YtnnieekbklmgdaaDoorSyE
namespace Go.Proofs.YtnnieekbklmgdaaDoor
open Go Go.Eng
open Int renaming reduceEq → Zaa, reduceToNat → Zaw, reduceLE → Zax, reduceLT → Zay, reduceAdd → Zaz, reduceSub → Za0, reduceNeg → Za1, reducePow → Za3, reduceNegSucc → Za5
open UInt8 renaming reduceOfNat → Zab
open Go.Eng renaming subG → Zac, lit → Zad, isPar → Zae, numb → Zaf, Wf → Zag, resV → Zah, oneCell → Zai, isB → Zaj, asB → Zak
open List renaming mapM_cons → Zal, mapM_nil → Zam
open Go.Value renaming cells → Zan
open Nat renaming reduceAdd → Zao, reduceMul → Zap, reduceMod → Zaq, reduceDiv → Zar, reduceEqDiff → Zas, reduceBEq → Zat, reduceLeDiff → Zau, reduceSub → Zav, reducePow → Za2, reduceLT → Za4
set_option linter.unusedSimpArgs false
set_option linter.unusedVariables false
set_option maxRecDepth 20000

theorem rowsOf_none {F : Base} {H : Hp} {n c : Nat} {a : Option Addr} : rowsOf F H n (.slice a 0 c) = some (0, []) := by
  rcases a with _ | ⟨b, off, _ | s⟩
  · rfl
  · rw [rowsOf_sl, Nat.zero_mul]
    cases h : cellsAt F H b off 0 with
    | none => rfl
    | some l =>
      have : l = [] := by
        unfold cellsAt at h
        split at h
        · split at h
          · simp only [Option.some.injEq] at h; rw [← h]; simp
          · cases h
        · cases h
      subst this; rfl
  · rfl
theorem HasS.cells {F : Base} {a : Option Addr} {l : List Str} (h : HasS F a l) (h0 : l ≠ []) : ∃ b off, a = some ⟨b, off, none⟩ ∧ ∀ H, cellsAt F H b off (l.length * 1) = some (strs l) := by
  have hlen : 0 < l.length := by cases l with
    | nil => exact absurd rfl h0
    | cons => simp
  obtain ⟨b, off, c, T, fz, ha, hF, -, -⟩ := h.1 0 _ (getS hlen)
  refine ⟨b, off, ha, fun H => ?_⟩
  have hall : ∀ i, i < l.length → off + i + 1 ≤ c.size ∧ c.toList[off + i]? = some (.string (bs (l.getD i []))) := fun i hi => by
    obtain ⟨b', off', c', T', fz', ha', hF', h1, h2⟩ := h.1 i _ (getS hi)
    rw [ha] at ha'
    injection ha' with ha'
    injection ha' with e1 e2
    subst e1 e2
    rw [hF] at hF'
    simp only [Option.some.injEq, Obj.cells.injEq] at hF'
    obtain ⟨rfl, rfl, rfl⟩ := hF'
    rw [Nat.mul_one] at h1 h2
    refine ⟨h1, ?_⟩
    have hlt : off + i < c.toList.length := by simpa using (by omega : off + i < c.size)
    rw [List.drop_eq_getElem_cons hlt] at h2
    simp only [List.take_succ_cons, List.take_zero, List.cons.injEq, and_true] at h2
    rw [List.getElem?_eq_getElem hlt, h2]
  rw [cellsAt_O, rdObj_base hF]
  unfold cellsO
  have hsz := (hall (l.length - 1) (by omega)).1
  simp only
  rw [if_pos (by omega), Nat.mul_one]
  congr 1
  apply List.ext_getElem?
  intro i
  by_cases hi : i < l.length
  · rw [List.getElem?_take_of_lt hi, List.getElem?_drop, (hall i hi).2, List.getElem?_map, getS hi]; rfl
  · rw [List.getElem?_eq_none (by simp; omega), List.getElem?_eq_none (by simp; omega)]
theorem own_SlS {F : Base} {T : Nat} {l : List Str} {v : Value} {Ho H : Hp} (h : OwnS F 1 T (strs l) l.length v Ho) (hl : ∀ e ∈ Ho, lk H e.1 = some e.2) (hm : l.length ≤ 9223372036854775807) (hs : ∀ x ∈ l, x.length ≤ 9223372036854775807) : SlS (rdObj F H) v l := by
  rcases h.out with ⟨h1, h2, rfl, rfl⟩ | ⟨b, cap, sp, rfl, rfl, hF, h1, h2, h3, h4⟩
  · have : l = [] := List.eq_nil_of_length_eq_zero h2
    subst this; exact nilS _
  · refine ⟨some ⟨b, 0, none⟩, cap, rfl, h3, hm, fun i s hi => ?_, fun i s hi => hs s (List.mem_of_getElem? hi)⟩
    have hlt := (List.getElem?_eq_some_iff.1 hi).1
    refine ⟨b, 0, _, T, (0, 0), rfl, by unfold rdObj; rw [hF]; exact hl _ (List.mem_singleton.2 rfl), by simp [strs]; omega, ?_⟩
    have hg : (strs l ++ sp)[i]? = some (.string (bs s)) := by
      rw [List.getElem?_append_left (by simpa [strs] using hlt), List.getElem?_map, hi]; rfl
    obtain ⟨hlt2, he⟩ := List.getElem?_eq_some_iff.1 hg
    rw [Nat.mul_one, Nat.zero_add, List.toList_toArray, List.drop_eq_getElem_cons hlt2, he]
    rfl
/-- A copy of a row of texts, in new memory. -/
theorem EfL.init {F : Base} {H : Hp} {B T : Nat} {l : List Str} {y : Value} {K : Value → Hp → Prop} (hy : SlS F y l) (hB : (2 * l.length + 192) * B ≤ 281474976710656)
    (hk : ∀ v Ho, OwnS F 1 T (strs l) l.length v Ho → (∀ e ∈ Ho, ∀ e' ∈ H, e'.1 ≠ e.1) → K v (Ho ++ H)) : @EfL F H (.app 1 B T) [.slice none 0 0, y] ⟨K⟩ := by
  obtain ⟨a, c, rfl, hc, hl, hs⟩ := hy
  cases hn : l with
  | nil =>
    subst hn
    exact EfL.zero rowsOf_none (Nat.le_refl _) (hk _ [] .nil (fun e he => by cases he))
  | cons x r =>
    rw [← hn]
    have h0 : l ≠ [] := by rw [hn]; simp
    obtain ⟨b, off, rfl, hcell⟩ := hs.cells h0
    refine EfL.grow (Hr := H) (m := l.length) (nw := strs l) (.nil) (fun e he => by cases he) (fun e he => he) (fun e' _ e he => by cases he) (by rw [rowsOf_sl, hcell]; rfl) (by simp [strs]) (by intro v hv; obtain ⟨s, -, rfl⟩ := List.mem_map.1 hv; rfl) (by rw [hn]; simp) (by rw [Nat.zero_add]; exact hB) ?_
    intro b2 cap sp h1 h2 h3 hF hne
    rw [Nat.zero_add] at h1 h2 ⊢
    refine hk _ [(b2, _)] (OwnS.mk sp hF rfl rfl (by simp [strs]) h1 h2 h3) (fun e he e' he' => ?_)
    rw [List.mem_singleton] at he
    subst he
    exact hne e' he'
open Classical in
theorem Leads_pure (F : Base) {ch : List Value} {s : Sch} (h : RepH F ch s) (acts : Bool) (low high : Str) (U : List Str) (hU : ∀ x y, y ∈ nx s acts x → y ∈ U) (hUl : U.length ≤ 100000) (hnl : ∀ x, (nx s acts x).length ≤ 100000) :
    PureV Tryd.prog F 18 #[.agg ch.toArray, .bool acts, .string (bs low), .string (bs high)] (.bool (decide (Reach (nx s acts) low high))) := by
  have hn := fun x => next_pure F h acts x
  cases h with
  | mk a1 a2 c1 c2 ts xs g1 g2 hc1 hc2 hl1 hl2 h1 h2 =>
    generalize nx ⟨ts, xs⟩ acts = n at *
    refine pureV_of_svc mixed Tryd.func18 low18 (Nat.le_of_ble_eq_true rfl) (fun w0 => ?_)
    simp (disch := first | assumption | exact Ne.symm (by assumption) | omega) only [fu18, ↓ZD, ZU, ne_eq, Zaa, Zab, false_implies, Zac, Zad, Zae, Zaf, Zag, Zah, Zai, Zaj, Zak, Zal, Zam, Zan, Zao, Zap, Zaq, Zar, Zas, Zat, Zau, Zav, Zaw, Zax, Zay, Zaz, Za0, Za1, decide_true, decide_false, beq_self_eq_true, cond_true, cond_false, if_false, if_true, reduceIte, reduceCtorEq, not_true_eq_false, not_false_eq_true, true_and, and_true, forall_const, false_and, and_false, implies_true, Za2, Za3, Za4, Za5]
    refine NewB.of fun b1 hb1 hF1 => ?_
    simp (disch := first | assumption | exact Ne.symm (by assumption) | omega) only [hF1, ↓ZD, ZU, ne_eq, Zaa, Zab, false_implies, Zac, Zad, Zae, Zaf, Zag, Zah, Zai, Zaj, Zak, Zal, Zam, Zan, Zao, Zap, Zaq, Zar, Zas, Zat, Zau, Zav, Zaw, Zax, Zay, Zaz, Za0, Za1, decide_true, decide_false, beq_self_eq_true, cond_true, cond_false, if_false, if_true, reduceIte, reduceCtorEq, not_true_eq_false, not_false_eq_true, true_and, and_true, forall_const, false_and, and_false, implies_true, Za2, Za3, Za4, Za5]
    obtain ⟨v0, ⟨a0, c0, rfl, hc0, hl0, hs0⟩, hp0⟩ := hn low
    refine CallE.pure hp0 ?_
    simp (disch := first | assumption | exact Ne.symm (by assumption) | omega) only [hF1, ↓ZD, ZU, ne_eq, Zaa, Zab, false_implies, Zac, Zad, Zae, Zaf, Zag, Zah, Zai, Zaj, Zak, Zal, Zam, Zan, Zao, Zap, Zaq, Zar, Zas, Zat, Zau, Zav, Zaw, Zax, Zay, Zaz, Za0, Za1, decide_true, decide_false, beq_self_eq_true, cond_true, cond_false, if_false, if_true, reduceIte, reduceCtorEq, not_true_eq_false, not_false_eq_true, true_and, and_true, forall_const, false_and, and_false, implies_true, Za2, Za3, Za4, Za5]
    have hlo := hnl low
    refine EfL.init ⟨a0, c0, rfl, hc0, hl0, hs0⟩ (by omega) fun v0 Ho0 ho0 hd0 => ?_
    have hob0 : ∀ e ∈ Ho0, e.1 ≠ b1 := fun e he h => hd0 e he _ (List.mem_singleton.2 rfl) h.symm
    have hlk0 : lk (Ho0 ++ [(b1, Obj.cells #[Value.slice a1 ts.length c1, Value.slice a2 xs.length c2] 25 (0, 0))]) b1 = some (Obj.cells #[Value.slice a1 ts.length c1, Value.slice a2 xs.length c2] 25 (0, 0)) := by
      rw [lk_append, lk_none hob0]; simp [lk]
    simp (disch := first | assumption | exact Ne.symm (by assumption) | omega) only [hF1, ↓ZD, ZU, ne_eq, Zaa, Zab, false_implies, Zac, Zad, Zae, Zaf, Zag, Zah, Zai, Zaj, Zak, Zal, Zam, Zan, Zao, Zap, Zaq, Zar, Zas, Zat, Zau, Zav, Zaw, Zax, Zay, Zaz, Za0, Za1, decide_true, decide_false, beq_self_eq_true, cond_true, cond_false, if_false, if_true, reduceIte, reduceCtorEq, not_true_eq_false, not_false_eq_true, true_and, and_true, forall_const, false_and, and_false, implies_true, Za2, Za3, Za4, Za5]
    refine LoopL.inv (α := Nat × List Str × Value × Hp) (fun z => z.1 ≤ z.2.1.length ∧ OwnS F 1 9 (strs z.2.1) z.2.1.length z.2.2.1 z.2.2.2 ∧ (∀ e ∈ z.2.2.2, e.1 ≠ b1) ∧ z.2.1.length + cnt z.2.1 U ≤ 100000 + U.length ∧
        (∀ y ∈ z.2.1, Reach n low y ∧ y.length ≤ 9223372036854775807) ∧ (∀ y ∈ n low, y ∈ z.2.1) ∧ ∀ x ∈ z.2.1.take z.1, ∀ y ∈ n x, y ∈ z.2.1)
      (fun z => [(1, some (.bool acts)), (3, some (.string (bs high))), (4, some (.pointer (some ⟨b1, 0, none⟩))), (9, some z.2.2.1), (10, some (.int .i64 z.1))])
      (fun z => (b1, .cells #[.slice a1 ts.length c1, .slice a2 xs.length c2] 25 (0, 0)) :: z.2.2.2) (fun z => 2 * cnt z.2.1 U + (z.2.1.length - z.1))
      (0, n low, v0, Ho0) ⟨Nat.zero_le _, ho0, hob0, ?_, ?_, fun y hy => hy, by simp⟩ (by (simp only [Le_nil, Le_cons]; simp (disch := first | assumption | exact Ne.symm (by assumption) | omega) only [↓ZD, ZU, ne_eq, Zaa, Zab, false_implies, Zac, Zad, Zae, Zaf, Zag, Zah, Zai, Zaj, Zak, Zal, Zam, Zan, Zao, Zap, Zaq, Zar, Zas, Zat, Zau, Zav, Zaw, Zax, Zay, Zaz, Za0, Za1, decide_true, decide_false, beq_self_eq_true, cond_true, cond_false, if_false, if_true, reduceIte, reduceCtorEq, not_true_eq_false, not_false_eq_true, true_and, and_true, forall_const, false_and, and_false, implies_true, Za2, Za3, Za4, Za5]; try trivial)) ⟨hlk0, ?_⟩ ?_
    · have : cnt (n low) U ≤ U.length := by
        have : ∀ S : List Str, ∀ V, cnt S V ≤ V.length := fun S V => by
          induction V with
          | nil => exact Nat.le_refl _
          | cons u V ih => rw [cnt, List.length_cons]; split <;> omega
        exact this _ _
      simp only; omega
    · intro y hy
      obtain ⟨i, hi⟩ := List.mem_iff_getElem?.mp hy
      exact ⟨.one hy, hs0.2 i y hi⟩
    · rcases ho0.out with ⟨-, -, -, rfl⟩ | ⟨b, cap, sp, -, rfl, -⟩
      · trivial
      · exact ⟨by simp [lk], trivial⟩
    rintro ⟨i, R, v, Ho⟩ ⟨hi, ho, hob, hlen, hR, hlow, hC⟩
    simp only at hi ho hob hlen hR hlow hC
    have hRl : R.length ≤ 200000 := by omega
    obtain ⟨base, cap, hv, hcap⟩ := ho.len_le
    by_cases hlt : i < R.length
    · have hd : decide ((i : Int) < (R.length : Int)) = true := by simp; omega
      have hx := getS hlt
      have htk := take_snoc hx
      have hxm : R.getD i [] ∈ R := List.mem_of_getElem? hx
      rcases ho.out with ⟨-, h0, -, -⟩ | ⟨b, cap', sp, hv', hHo, hF, h1, h2, h3, h4⟩
      · omega
      subst hHo
      rw [hv'] at ho ⊢
      clear hv hcap hv'
      have hbb : b1 ≠ b := fun h => hob _ (List.mem_singleton.2 rfl) h.symm
      have hld := ldV_own (F := F) (H := (b1, .cells #[.slice a1 ts.length c1, .slice a2 xs.length c2] 25 (0, 0)) :: [(b, .cells (strs R ++ sp).toArray 9 (0, 0))]) (b := b) (m := i) (c := (strs R ++ sp).toArray) (T := 9) (fz := (0, 0)) hF (by simp (disch := first | assumption | exact Ne.symm (by assumption) | omega) only [↓ZD, ZU, ne_eq, Zaa, Zab, false_implies, Zac, Zad, Zae, Zaf, Zag, Zah, Zai, Zaj, Zak, Zal, Zam, Zan, Zao, Zap, Zaq, Zar, Zas, Zat, Zau, Zav, Zaw, Zax, Zay, Zaz, Za0, Za1, decide_true, decide_false, beq_self_eq_true, cond_true, cond_false, if_false, if_true, reduceIte, reduceCtorEq, not_true_eq_false, not_false_eq_true, true_and, and_true, forall_const, false_and, and_false, implies_true, Za2, Za3, Za4, Za5]) (by simp [strs]; omega)
      have hget : (strs R ++ sp).toArray.toList.getD i undef = .string (bs (R.getD i [])) := by
        rw [List.toList_toArray, List.getD_eq_getElem?_getD, List.getElem?_append_left (by simpa [strs] using hlt), List.getElem?_map, hx]; rfl
      rw [hget] at hld
      obtain ⟨vn, ⟨an, cn, rfl, hcn, hln, hsn⟩, hpn⟩ := hn (R.getD i [])
      have hnx := hU (R.getD i [])
      have hrx := (hR _ hxm).1
      have hnlx := hnl (R.getD i [])
      generalize R.getD i [] = x at *
      simp (disch := first | assumption | exact Ne.symm (by assumption) | omega) only [hd, Nat.mul_one, Nat.zero_add, ↓ZD, ZU, ne_eq, Zaa, Zab, false_implies, Zac, Zad, Zae, Zaf, Zag, Zah, Zai, Zaj, Zak, Zal, Zam, Zan, Zao, Zap, Zaq, Zar, Zas, Zat, Zau, Zav, Zaw, Zax, Zay, Zaz, Za0, Za1, decide_true, decide_false, beq_self_eq_true, cond_true, cond_false, if_false, if_true, reduceIte, reduceCtorEq, not_true_eq_false, not_false_eq_true, true_and, and_true, forall_const, false_and, and_false, implies_true, Za2, Za3, Za4, Za5]
      refine conj.of (by omega) ?_
      simp (disch := first | assumption | exact Ne.symm (by assumption) | omega) only [hd, Nat.mul_one, Nat.zero_add, Int.toNat_natCast, ↓hld, ↓ZD, ZU, ne_eq, Zaa, Zab, false_implies, Zac, Zad, Zae, Zaf, Zag, Zah, Zai, Zaj, Zak, Zal, Zam, Zan, Zao, Zap, Zaq, Zar, Zas, Zat, Zau, Zav, Zaw, Zax, Zay, Zaz, Za0, Za1, decide_true, decide_false, beq_self_eq_true, cond_true, cond_false, if_false, if_true, reduceIte, reduceCtorEq, not_true_eq_false, not_false_eq_true, true_and, and_true, forall_const, false_and, and_false, implies_true, Za2, Za3, Za4, Za5]
      refine CallQ.of _ hpn.up ?_
      simp (disch := first | assumption | exact Ne.symm (by assumption) | omega) only [hd, Nat.mul_one, Nat.zero_add, Int.toNat_natCast, ↓hld, ↓ZD, ZU, ne_eq, Zaa, Zab, false_implies, Zac, Zad, Zae, Zaf, Zag, Zah, Zai, Zaj, Zak, Zal, Zam, Zan, Zao, Zap, Zaq, Zar, Zas, Zat, Zau, Zav, Zaw, Zax, Zay, Zaz, Za0, Za1, decide_true, decide_false, beq_self_eq_true, cond_true, cond_false, if_false, if_true, reduceIte, reduceCtorEq, not_true_eq_false, not_false_eq_true, true_and, and_true, forall_const, false_and, and_false, implies_true, Za2, Za3, Za4, Za5]
      refine LoopL.inv (α := Nat × List Str × Value × Hp) (fun z => z.1 ≤ (n x).length ∧ OwnS F 1 9 (strs z.2.1) z.2.1.length z.2.2.1 z.2.2.2 ∧ (∀ e ∈ z.2.2.2, e.1 ≠ b1) ∧ z.2.1.length + cnt z.2.1 U ≤ 100000 + U.length ∧ 2 * cnt z.2.1 U + z.2.1.length ≤ 2 * cnt R U + R.length ∧ R.length ≤ z.2.1.length ∧
          (∀ y ∈ z.2.1, Reach n low y ∧ y.length ≤ 9223372036854775807) ∧ (∀ y ∈ R, y ∈ z.2.1) ∧ (∀ y ∈ z.2.1.take i, y ∈ R.take i) ∧ (z.2.1[i]? = some x) ∧ ∀ y ∈ (n x).take z.1, y ∈ z.2.1)
        (fun z => [(1, some (.bool acts)), (3, some (.string (bs high))), (4, some (.pointer (some ⟨b1, 0, none⟩))), (9, some z.2.2.1), (10, some (.int .i64 i)), (11, some (.slice an (n x).length cn)), (12, some (.int .i64 z.1))])
        (fun z => (b1, .cells #[.slice a1 ts.length c1, .slice a2 xs.length c2] 25 (0, 0)) :: z.2.2.2) (fun z => (n x).length - z.1)
        (0, R, .slice (some ⟨b, 0, none⟩) R.length cap', [(b, .cells (strs R ++ sp).toArray 9 (0, 0))]) ⟨Nat.zero_le _, ho, hob, hlen, Nat.le_refl _, Nat.le_refl _, hR, fun y hy => hy, fun y hy => hy, hx, by simp⟩ (by (simp only [Le_nil, Le_cons]; simp (disch := first | assumption | exact Ne.symm (by assumption) | omega) only [↓ZD, ZU, ne_eq, Zaa, Zab, false_implies, Zac, Zad, Zae, Zaf, Zag, Zah, Zai, Zaj, Zak, Zal, Zam, Zan, Zao, Zap, Zaq, Zar, Zas, Zat, Zau, Zav, Zaw, Zax, Zay, Zaz, Za0, Za1, decide_true, decide_false, beq_self_eq_true, cond_true, cond_false, if_false, if_true, reduceIte, reduceCtorEq, not_true_eq_false, not_false_eq_true, true_and, and_true, forall_const, false_and, and_false, implies_true, Za2, Za3, Za4, Za5]; try trivial)) ⟨by simp (disch := first | assumption | exact Ne.symm (by assumption) | omega) only [↓ZD, ZU, ne_eq, Zaa, Zab, false_implies, Zac, Zad, Zae, Zaf, Zag, Zah, Zai, Zaj, Zak, Zal, Zam, Zan, Zao, Zap, Zaq, Zar, Zas, Zat, Zau, Zav, Zaw, Zax, Zay, Zaz, Za0, Za1, decide_true, decide_false, beq_self_eq_true, cond_true, cond_false, if_false, if_true, reduceIte, reduceCtorEq, not_true_eq_false, not_false_eq_true, true_and, and_true, forall_const, false_and, and_false, implies_true, Za2, Za3, Za4, Za5], by simp (disch := first | assumption | exact Ne.symm (by assumption) | omega) only [↓ZD, ZU, ne_eq, Zaa, Zab, false_implies, Zac, Zad, Zae, Zaf, Zag, Zah, Zai, Zaj, Zak, Zal, Zam, Zan, Zao, Zap, Zaq, Zar, Zas, Zat, Zau, Zav, Zaw, Zax, Zay, Zaz, Za0, Za1, decide_true, decide_false, beq_self_eq_true, cond_true, cond_false, if_false, if_true, reduceIte, reduceCtorEq, not_true_eq_false, not_false_eq_true, true_and, and_true, forall_const, false_and, and_false, implies_true, Za2, Za3, Za4, Za5], trivial⟩ ?_
      rintro ⟨j, S, v, Hq⟩ ⟨hj, hoq, hqb, hlq, hmu, hSl, hS, hRS, hti, hxi, hdone⟩
      simp only at hj hoq hqb hlq hmu hSl hS hRS hti hxi hdone
      by_cases hjl : j < (n x).length
      · have hdj : decide ((j : Int) < ((n x).length : Int)) = true := by simp; omega
        have gk := getS hjl
        have hkl := hsn.2 j _ gk
        obtain ⟨ba, oa, rfl, hla⟩ := (hsn.1 j _ gk).ld1
        simp only [Nat.mul_one] at hla
        have hkm : (n x).getD j [] ∈ n x := List.mem_of_getElem? gk
        have hts := take_snoc gk
        generalize (n x).getD j [] = k at *
        have hrk : Reach n low k := .step hrx hkm
        have hkU := hnx k hkm
        obtain ⟨base2, cap2, rfl, hcap2⟩ := hoq.len_le
        have hsl := own_SlS (H := (b1, .cells #[.slice a1 ts.length c1, .slice a2 xs.length c2] 25 (0, 0)) :: Hq) hoq (hoq.lk [_] (by simp only [List.forall_mem_cons, List.not_mem_nil, false_implies, implies_true, and_true]; exact hqb)) (by omega) (fun y hy => (hS y hy).2)
        simp (disch := first | assumption | exact Ne.symm (by assumption) | omega) only [hdj, Nat.mul_one, ↓ZD, ZU, ne_eq, Zaa, Zab, false_implies, Zac, Zad, Zae, Zaf, Zag, Zah, Zai, Zaj, Zak, Zal, Zam, Zan, Zao, Zap, Zaq, Zar, Zas, Zat, Zau, Zav, Zaw, Zax, Zay, Zaz, Za0, Za1, decide_true, decide_false, beq_self_eq_true, cond_true, cond_false, if_false, if_true, reduceIte, reduceCtorEq, not_true_eq_false, not_false_eq_true, true_and, and_true, forall_const, false_and, and_false, implies_true, Za2, Za3, Za4, Za5]
        refine conj.of (by omega) ?_
        simp (disch := first | assumption | exact Ne.symm (by assumption) | omega) only [hdj, Nat.mul_one, Int.toNat_natCast, ↓hla, ↓ZD, ZU, ne_eq, Zaa, Zab, false_implies, Zac, Zad, Zae, Zaf, Zag, Zah, Zai, Zaj, Zak, Zal, Zam, Zan, Zao, Zap, Zaq, Zar, Zas, Zat, Zau, Zav, Zaw, Zax, Zay, Zaz, Za0, Za1, decide_true, decide_false, beq_self_eq_true, cond_true, cond_false, if_false, if_true, reduceIte, reduceCtorEq, not_true_eq_false, not_false_eq_true, true_and, and_true, forall_const, false_and, and_false, implies_true, Za2, Za3, Za4, Za5]
        refine CallE.pureH (has_pure _ hsl k) ?_
        simp (disch := first | assumption | exact Ne.symm (by assumption) | omega) only [hdj, Nat.mul_one, Int.toNat_natCast, ↓hla, ↓ZD, ZU, ne_eq, Zaa, Zab, false_implies, Zac, Zad, Zae, Zaf, Zag, Zah, Zai, Zaj, Zak, Zal, Zam, Zan, Zao, Zap, Zaq, Zar, Zas, Zat, Zau, Zav, Zaw, Zax, Zay, Zaz, Za0, Za1, decide_true, decide_false, beq_self_eq_true, cond_true, cond_false, if_false, if_true, reduceIte, reduceCtorEq, not_true_eq_false, not_false_eq_true, true_and, and_true, forall_const, false_and, and_false, implies_true, Za2, Za3, Za4, Za5]
        refine ⟨fun hm => ?_, fun hm => ?_⟩
        · have hkS : k ∉ S := by simpa using hm
          refine conj.of (by omega) ?_
          simp (disch := first | assumption | exact Ne.symm (by assumption) | omega) only [hdj, Nat.mul_one, Int.toNat_natCast, ↓hla, ↓ZD, ZU, ne_eq, Zaa, Zab, false_implies, Zac, Zad, Zae, Zaf, Zag, Zah, Zai, Zaj, Zak, Zal, Zam, Zan, Zao, Zap, Zaq, Zar, Zas, Zat, Zau, Zav, Zaw, Zax, Zay, Zaz, Za0, Za1, decide_true, decide_false, beq_self_eq_true, cond_true, cond_false, if_false, if_true, reduceIte, reduceCtorEq, not_true_eq_false, not_false_eq_true, true_and, and_true, forall_const, false_and, and_false, implies_true, Za2, Za3, Za4, Za5]
          refine NewB.of fun b2 hb2 hF2 => ?_
          simp only [List.forall_mem_cons] at hb2
          obtain ⟨hb21, hb2⟩ := hb2
          simp (disch := first | assumption | exact Ne.symm (by assumption) | omega) only [hF1, hF2, ↓ZD, ZU, ne_eq, Zaa, Zab, false_implies, Zac, Zad, Zae, Zaf, Zag, Zah, Zai, Zaj, Zak, Zal, Zam, Zan, Zao, Zap, Zaq, Zar, Zas, Zat, Zau, Zav, Zaw, Zax, Zay, Zaz, Za0, Za1, decide_true, decide_false, beq_self_eq_true, cond_true, cond_false, if_false, if_true, reduceIte, reduceCtorEq, not_true_eq_false, not_false_eq_true, true_and, and_true, forall_const, false_and, and_false, implies_true, Za2, Za3, Za4, Za5]
          refine EfL.grow (Hr := [(b1, .cells #[.slice a1 ts.length c1, .slice a2 xs.length c2] 25 (0, 0))]) (m := 1) (nw := [.string (bs k)]) hoq (hoq.lk [_, _] (by simp only [List.forall_mem_cons, List.not_mem_nil, false_implies, implies_true, and_true]; exact ⟨hb2, hqb⟩)) (by simp) (by simp only [List.forall_mem_cons]; exact ⟨hqb, fun e he => by cases he⟩) ?_ rfl (by simp [oneCell]) (by simp) (by omega) ?_
          · simp (disch := first | assumption | exact Ne.symm (by assumption) | omega) only [hF2, ↓ZD, ZU, ne_eq, Zaa, Zab, false_implies, Zac, Zad, Zae, Zaf, Zag, Zah, Zai, Zaj, Zak, Zal, Zam, Zan, Zao, Zap, Zaq, Zar, Zas, Zat, Zau, Zav, Zaw, Zax, Zay, Zaz, Za0, Za1, decide_true, decide_false, beq_self_eq_true, cond_true, cond_false, if_false, if_true, reduceIte, reduceCtorEq, not_true_eq_false, not_false_eq_true, true_and, and_true, forall_const, false_and, and_false, implies_true, Za2, Za3, Za4, Za5]
          · intro b3 cap3 sp3 hs3 hc3 hm3 hF3 hne3
            simp only [List.forall_mem_cons] at hne3
            have hcn := cnt_lt hkS hkU
            simp (disch := first | assumption | exact Ne.symm (by assumption) | omega) only [↓ZD, ZU, ne_eq, Zaa, Zab, false_implies, Zac, Zad, Zae, Zaf, Zag, Zah, Zai, Zaj, Zak, Zal, Zam, Zan, Zao, Zap, Zaq, Zar, Zas, Zat, Zau, Zav, Zaw, Zax, Zay, Zaz, Za0, Za1, decide_true, decide_false, beq_self_eq_true, cond_true, cond_false, if_false, if_true, reduceIte, reduceCtorEq, not_true_eq_false, not_false_eq_true, true_and, and_true, forall_const, false_and, and_false, implies_true, Za2, Za3, Za4, Za5]
            refine invK.on (j + 1, S ++ [k], .slice (some ⟨b3, 0, none⟩) (S.length + 1) cap3, [(b3, .cells (strs S ++ ([.string (bs k)] : List Value) ++ sp3).toArray 9 (0, 0))]) ⟨by simp only; omega, OwnS.mk sp3 hF3 (by simp [strs]) (by simp) (by simp [strs]) (by simpa using hs3) (by simpa using hc3) hm3, ?_, ?_, ?_, ?_, ?_, ?_, ?_, ?_, ?_⟩ (by simp only; omega) (by (simp only [Le_nil, Le_cons]; simp (disch := first | assumption | exact Ne.symm (by assumption) | omega) only [↓ZD, ZU, ne_eq, Zaa, Zab, false_implies, Zac, Zad, Zae, Zaf, Zag, Zah, Zai, Zaj, Zak, Zal, Zam, Zan, Zao, Zap, Zaq, Zar, Zas, Zat, Zau, Zav, Zaw, Zax, Zay, Zaz, Za0, Za1, decide_true, decide_false, beq_self_eq_true, cond_true, cond_false, if_false, if_true, reduceIte, reduceCtorEq, not_true_eq_false, not_false_eq_true, true_and, and_true, forall_const, false_and, and_false, implies_true, Za2, Za3, Za4, Za5]; try trivial)) ⟨by simp (disch := first | assumption | exact Ne.symm (by assumption) | omega) only [↓ZD, ZU, ne_eq, Zaa, Zab, false_implies, Zac, Zad, Zae, Zaf, Zag, Zah, Zai, Zaj, Zak, Zal, Zam, Zan, Zao, Zap, Zaq, Zar, Zas, Zat, Zau, Zav, Zaw, Zax, Zay, Zaz, Za0, Za1, decide_true, decide_false, beq_self_eq_true, cond_true, cond_false, if_false, if_true, reduceIte, reduceCtorEq, not_true_eq_false, not_false_eq_true, true_and, and_true, forall_const, false_and, and_false, implies_true, Za2, Za3, Za4, Za5], by simp (disch := first | assumption | exact Ne.symm (by assumption) | omega) only [↓ZD, ZU, ne_eq, Zaa, Zab, false_implies, Zac, Zad, Zae, Zaf, Zag, Zah, Zai, Zaj, Zak, Zal, Zam, Zan, Zao, Zap, Zaq, Zar, Zas, Zat, Zau, Zav, Zaw, Zax, Zay, Zaz, Za0, Za1, decide_true, decide_false, beq_self_eq_true, cond_true, cond_false, if_false, if_true, reduceIte, reduceCtorEq, not_true_eq_false, not_false_eq_true, true_and, and_true, forall_const, false_and, and_false, implies_true, Za2, Za3, Za4, Za5], trivial⟩
            · intro e he
              simp only [List.mem_singleton] at he
              subst he
              exact fun h => hne3.1 h.symm
            · simp only [List.length_append, List.length_singleton]; omega
            · simp only [List.length_append, List.length_singleton]; omega
            · simp only [List.length_append, List.length_singleton]; omega
            · intro y hy
              rcases List.mem_append.1 hy with h | h
              · exact hS y h
              · rw [List.mem_singleton] at h; subst h; exact ⟨hrk, hkl⟩
            · exact fun y hy => List.mem_append_left _ (hRS y hy)
            · intro y hy
              rw [List.take_append_of_le_length (by omega)] at hy
              exact hti y hy
            · rw [List.getElem?_append_left (by omega)]; exact hxi
            · intro y hy
              rw [hts, List.mem_append, List.mem_singleton] at hy
              rcases hy with h | rfl
              · exact List.mem_append_left _ (hdone y h)
              · simp
        · have hkS : k ∈ S := by simpa using hm
          refine invK.on (j + 1, S, .slice base2 S.length cap2, Hq) ⟨by simp only; omega, hoq, hqb, hlq, hmu, hSl, hS, hRS, hti, hxi, ?_⟩ (by simp only; omega) (by (simp only [Le_nil, Le_cons]; simp (disch := first | assumption | exact Ne.symm (by assumption) | omega) only [↓ZD, ZU, ne_eq, Zaa, Zab, false_implies, Zac, Zad, Zae, Zaf, Zag, Zah, Zai, Zaj, Zak, Zal, Zam, Zan, Zao, Zap, Zaq, Zar, Zas, Zat, Zau, Zav, Zaw, Zax, Zay, Zaz, Za0, Za1, decide_true, decide_false, beq_self_eq_true, cond_true, cond_false, if_false, if_true, reduceIte, reduceCtorEq, not_true_eq_false, not_false_eq_true, true_and, and_true, forall_const, false_and, and_false, implies_true, Za2, Za3, Za4, Za5]; try trivial)) ⟨by simp (disch := first | assumption | exact Ne.symm (by assumption) | omega) only [↓ZD, ZU, ne_eq, Zaa, Zab, false_implies, Zac, Zad, Zae, Zaf, Zag, Zah, Zai, Zaj, Zak, Zal, Zam, Zan, Zao, Zap, Zaq, Zar, Zas, Zat, Zau, Zav, Zaw, Zax, Zay, Zaz, Za0, Za1, decide_true, decide_false, beq_self_eq_true, cond_true, cond_false, if_false, if_true, reduceIte, reduceCtorEq, not_true_eq_false, not_false_eq_true, true_and, and_true, forall_const, false_and, and_false, implies_true, Za2, Za3, Za4, Za5], hoq.hle [_] (by simp only [List.forall_mem_cons, List.not_mem_nil, false_implies, implies_true, and_true]; exact hqb)⟩
          intro y hy
          rw [hts, List.mem_append, List.mem_singleton] at hy
          rcases hy with h | rfl
          · exact hdone y h
          · exact hkS
      · have hdj : decide ((j : Int) < ((n x).length : Int)) = false := by simp; omega
        obtain rfl : j = (n x).length := by omega
        rw [List.take_length] at hdone
        simp (disch := first | assumption | exact Ne.symm (by assumption) | omega) only [hdj, ↓ZD, ZU, ne_eq, Zaa, Zab, false_implies, Zac, Zad, Zae, Zaf, Zag, Zah, Zai, Zaj, Zak, Zal, Zam, Zan, Zao, Zap, Zaq, Zar, Zas, Zat, Zau, Zav, Zaw, Zax, Zay, Zaz, Za0, Za1, decide_true, decide_false, beq_self_eq_true, cond_true, cond_false, if_false, if_true, reduceIte, reduceCtorEq, not_true_eq_false, not_false_eq_true, true_and, and_true, forall_const, false_and, and_false, implies_true, Za2, Za3, Za4, Za5]
        refine invK.on (i + 1, S, v, Hq) ⟨by simp only; omega, hoq, hqb, hlq, hS, fun y hy => hRS y (hlow y hy), ?_⟩ (by simp only; omega) (by (simp only [Le_nil, Le_cons]; simp (disch := first | assumption | exact Ne.symm (by assumption) | omega) only [↓ZD, ZU, ne_eq, Zaa, Zab, false_implies, Zac, Zad, Zae, Zaf, Zag, Zah, Zai, Zaj, Zak, Zal, Zam, Zan, Zao, Zap, Zaq, Zar, Zas, Zat, Zau, Zav, Zaw, Zax, Zay, Zaz, Za0, Za1, decide_true, decide_false, beq_self_eq_true, cond_true, cond_false, if_false, if_true, reduceIte, reduceCtorEq, not_true_eq_false, not_false_eq_true, true_and, and_true, forall_const, false_and, and_false, implies_true, Za2, Za3, Za4, Za5]; try trivial)) ⟨by simp (disch := first | assumption | exact Ne.symm (by assumption) | omega) only [↓ZD, ZU, ne_eq, Zaa, Zab, false_implies, Zac, Zad, Zae, Zaf, Zag, Zah, Zai, Zaj, Zak, Zal, Zam, Zan, Zao, Zap, Zaq, Zar, Zas, Zat, Zau, Zav, Zaw, Zax, Zay, Zaz, Za0, Za1, decide_true, decide_false, beq_self_eq_true, cond_true, cond_false, if_false, if_true, reduceIte, reduceCtorEq, not_true_eq_false, not_false_eq_true, true_and, and_true, forall_const, false_and, and_false, implies_true, Za2, Za3, Za4, Za5], hoq.hle [_] (by simp only [List.forall_mem_cons, List.not_mem_nil, false_implies, implies_true, and_true]; exact hqb)⟩
        intro y hy
        rw [take_snoc hxi, List.mem_append, List.mem_singleton] at hy
        rcases hy with h | rfl
        · exact fun z hz => hRS z (hC y (hti y h) z hz)
        · exact hdone
    · have hd : decide ((i : Int) < (R.length : Int)) = false := by simp; omega
      obtain rfl : i = R.length := by omega
      rw [List.take_length] at hC
      have hmem : decide (high ∈ R) = decide (Reach n low high) := by
        have : high ∈ R ↔ Reach n low high := by
          constructor
          · exact fun h => (hR _ h).1
          · intro h
            generalize hlo : low = lo at h
            induction h with
            | one h1 => subst hlo; exact hlow _ h1
            | step h1 h2 ih => exact hC _ ih _ h2
        simp only [this]
      have hsl := own_SlS (H := (b1, .cells #[.slice a1 ts.length c1, .slice a2 xs.length c2] 25 (0, 0)) :: Ho) ho (ho.lk [_] (by simp only [List.forall_mem_cons, List.not_mem_nil, false_implies, implies_true, and_true]; exact hob)) (by omega) (fun y hy => (hR y hy).2)
      subst hv
      simp (disch := first | assumption | exact Ne.symm (by assumption) | omega) only [hd, ↓ZD, ZU, ne_eq, Zaa, Zab, false_implies, Zac, Zad, Zae, Zaf, Zag, Zah, Zai, Zaj, Zak, Zal, Zam, Zan, Zao, Zap, Zaq, Zar, Zas, Zat, Zau, Zav, Zaw, Zax, Zay, Zaz, Za0, Za1, decide_true, decide_false, beq_self_eq_true, cond_true, cond_false, if_false, if_true, reduceIte, reduceCtorEq, not_true_eq_false, not_false_eq_true, true_and, and_true, forall_const, false_and, and_false, implies_true, Za2, Za3, Za4, Za5]
      refine CallE.pureH (has_pure _ hsl high) ?_
      simp (disch := first | assumption | exact Ne.symm (by assumption) | omega) only [hmem, ↓ZD, ZU, ne_eq, Zaa, Zab, false_implies, Zac, Zad, Zae, Zaf, Zag, Zah, Zai, Zaj, Zak, Zal, Zam, Zan, Zao, Zap, Zaq, Zar, Zas, Zat, Zau, Zav, Zaw, Zax, Zay, Zaz, Za0, Za1, decide_true, decide_false, beq_self_eq_true, cond_true, cond_false, if_false, if_true, reduceIte, reduceCtorEq, not_true_eq_false, not_false_eq_true, true_and, and_true, forall_const, false_and, and_false, implies_true, Za2, Za3, Za4, Za5]
end Go.Proofs.YtnnieekbklmgdaaDoor
