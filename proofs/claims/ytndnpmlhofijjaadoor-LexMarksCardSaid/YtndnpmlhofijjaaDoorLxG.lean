/- Layer 7: the words of a text. -/
import Derived.Test.YtndnpmlhofijjaaDoorLxF
namespace Go.Proofs.YtndnpmlhofijjaaDoor
open Go Go.Eng
open Int renaming reduceEq → Zaa, cast_ofNat_Int → Zac, reduceToNat → Zbu, toNat_zero → Zbv, toNat_one → Zbw, reduceLE → Zbx, reduceLT → Zby, reduceAdd → Zbz, reduceSub → Zb0, reduceNeg → Zb1, zero_add → Zb2, reducePow → Zcg, reduceNegSucc → Zci
open UInt8 renaming reduceOfNat → Zab
open List renaming toList_toArray → Zad, length_append → Zag, cons_append → Zav, nil_append → Zaw, length_cons → Zax, length_nil → Zay, drop_zero → Zaz, drop_succ_cons → Za0, take_succ_cons → Za1, take_zero → Za2, drop_nil → Za3, take_nil → Za4, append_nil → Za5, all_cons → Za6, all_nil → Za7, isEmpty_cons → Za8, size_toArray → Za9, getElem?_toArray → Zba, getElem?_cons_zero → Zbb, getElem?_cons_succ → Zbc, getD_cons_zero → Zbd, getD_cons_succ → Zbe, mapM_cons → Zbf, mapM_nil → Zbg
open Option renaming getD_some → Zae, getD_none → Zaf, map_some → Zar, map_none → Zas, bind_some → Zat, bind_none → Zau
open Nat renaming le_add_right → Zah, reduceAdd → Zbi, reduceMul → Zbj, reduceMod → Zbk, reduceDiv → Zbl, reduceEqDiff → Zbm, reduceBEq → Zbn, reduceLeDiff → Zbo, reduceSub → Zbp, zero_add → Zbq, add_zero → Zbr, le_refl → Zbs, zero_le → Zbt, reducePow → Zcf, reduceLT → Zch
open Go.Eng renaming subG → Zai, lit → Zaj, isPar → Zak, numb → Zal, Wf → Zam, resV → Zan, oneCell → Zao, isB → Zap, asB → Zaq
open Go.Value renaming cells → Zbh
open Bool renaming and_true → Zb3, true_and → Zb4, and_self → Zb5, not_true → Zb6, not_false → Zb7, and_false → Zb8, or_false → Zb9, or_true → Zca, true_or → Zcb, false_or → Zcc, false_and → Zcd, false_eq_true → Zce
set_option linter.unusedSimpArgs false
set_option linter.unusedVariables false
set_option maxRecDepth 20000

/-- The words from one place on, where no blank is. -/
def w1 : Nat → Nat → List UInt8 → Except (Int × Nat) (List (Wd × Nat))
  | 0, _, _ => .ok []
  | n + 1, at_, s => if s = [] then .ok [((0, [], 0), at_)] else match tok s with
    | .error e => .error (e, at_)
    | .ok (w, m) => match w1 n (at_ + m + blankN (s.drop m)) (s.drop (m + blankN (s.drop m))) with
      | .error x => .error x
      | .ok l => .ok ((w, at_) :: l)
def words (s : List UInt8) : Except (Int × Nat) (List (Wd × Nat)) := w1 (s.length + 1) (blankN s) (s.drop (blankN s))
def cellsW (l : List (Wd × Nat)) : List Value := l.flatMap fun x => wdV x.1 x.2
theorem cellsW_app (l m : List (Wd × Nat)) : cellsW (l ++ m) = cellsW l ++ cellsW m := by simp [cellsW]
theorem cellsW_len (l : List (Wd × Nat)) : (cellsW l).length = l.length * 4 := by
  induction l with
  | nil => rfl
  | cons x l ih => rw [show x :: l = [x] ++ l from rfl, cellsW_app, List.length_append, ih, List.length_append]; simp [cellsW, wdV]; omega
/-- What words answer. -/
def WordsPost (F : Base) (T : Nat) (s : List UInt8) (r : Value) (Ho : Hp) : Prop :=
  if 65536 < s.length then r = .tuple #[.slice none 0 0, .int .i64 12, .int .i64 0] ∧ Ho = []
  else match words s with
    | .error (e, a) => r = .tuple #[.slice none 0 0, .int .i64 e, .int .i64 a] ∧ Ho = []
    | .ok l => ∃ v, OwnS F 4 T (cellsW l) l.length v Ho ∧ r = .tuple #[v, .int .i64 0, .int .i64 0]
theorem WordsPost.long {F : Base} {T : Nat} {s : List UInt8} (h : 65536 < s.length) : WordsPost F T s (.tuple #[.slice none 0 0, .int .i64 12, .int .i64 0]) [] := by
  unfold WordsPost; rw [if_pos h]; exact ⟨rfl, rfl⟩
theorem WordsPost.err {F : Base} {T : Nat} {s : List UInt8} {e : Int} {a : Nat} (h : s.length ≤ 65536) (hw : words s = .error (e, a)) : WordsPost F T s (.tuple #[.slice none 0 0, .int .i64 e, .int .i64 a]) [] := by
  unfold WordsPost; rw [if_neg (by omega), hw]; exact ⟨rfl, rfl⟩
theorem WordsPost.ok {F : Base} {T : Nat} {s : List UInt8} {l : List (Wd × Nat)} {v : Value} {Ho : Hp} (h : s.length ≤ 65536) (hw : words s = .ok l) (ho : OwnS F 4 T (cellsW l) l.length v Ho) : WordsPost F T s (.tuple #[v, .int .i64 0, .int .i64 0]) Ho := by
  unfold WordsPost; rw [if_neg (by omega), hw]; exact ⟨v, ho, rfl⟩
theorem tok_len {s : List UInt8} {w : Wd} {m : Nat} (h : tok s = .ok (w, m)) : m ≠ 0 := by
  unfold tok at h
  split at h
  · cases h
  · split at h
    · cases h
    · rename_i h1
      injection h with h; injection h with _ h; exact h ▸ h1
theorem qX_le (s : List UInt8) (h : s ≠ []) : (qX s).2 ≤ s.length := by
  unfold qX
  split
  · exact Nat.zero_le _
  · rename_i k hk
    have := clo_le _ _ _ hk
    rw [List.length_drop] at this
    have : 0 < s.length := List.length_pos_iff.mpr h
    split
    · exact Nat.zero_le _
    · simp only; omega
theorem oneX_le {s : List UInt8} (h : s ≠ []) : (oneX s).2.1 ≤ s.length := by
  have h0 : 0 < s.length := List.length_pos_iff.mpr h
  unfold oneX
  split
  · exact nameX_le s
  split
  · exact takeWhile_le _ _
  split
  · exact qX_le s h
  split
  · split
    · exact Nat.zero_le _
    · have := nameX_le (s.drop 1)
      rw [List.length_drop] at this
      simp only; omega
  rename_i h4
  split
  · exact h0
  split
  · exact Nat.zero_le _
  · rename_i h5 h6
    obtain ⟨c, r, rfl⟩ : ∃ c r, s = c :: r := by cases s with | nil => exact absurd rfl h | cons c r => exact ⟨c, r, rfl⟩
    have h1 := mX_take c r
    have h2 : mX (c :: r) = markX (c :: r) := by unfold mX; rw [if_neg h5]
    rw [h2] at h1
    simp only
    rw [← h1, List.length_take]; omega
theorem tok_le {s : List UInt8} {w : Wd} {m : Nat} (hs : s ≠ []) (h : tok s = .ok (w, m)) : m ≤ s.length := by
  unfold tok at h
  split at h
  · cases h
  · split at h
    · cases h
    · injection h with h; injection h with _ h; exact h ▸ oneX_le hs
theorem words_does (F : Base) (hg : HasMarks F) (s : List UInt8) (hs : s.length ≤ 9223372036854775807) :
    Does Tryd.prog F 9 #[.string (bs s)] [] (WordsPost F 34 s) := by
  refine Does.shr (K := fun r H' => ∃ Ho, (∀ e ∈ Ho, e ∈ H') ∧ WordsPost F 34 s r Ho) ?_ (fun r H' ⟨Ho, h1, h2⟩ => ⟨Ho, h1, h2⟩)
  refine does_of_svc mixed Tryd.func9 low9 (Nat.le_of_ble_eq_true rfl) (fun w0 hw0 => ?_)
  simp (disch := omega) only [fu9, ↓ZD, ZU, ne_eq, Zaa, Zab, false_implies, Zac, Zad, Zae, Zaf, Zag, Zah, Zai, Zaj, Zak, Zal, Zam, Zan, Zao, Zap, Zaq, Zar, Zas, Zat, Zau, Zav, Zaw, Zax, Zay, Zaz, Za0, Za1, Za2, Za3, Za4, Za5, Za6, Za7, Za8, Za9, Zba, Zbb, Zbc, Zbd, Zbe, Zbf, Zbg, Zbh, Zbi, Zbj, Zbk, Zbl, Zbm, Zbn, Zbo, Zbp, Zbq, Zbr, Zbs, Zbt, Zbu, Zbv, Zbw, Zbx, Zby, Zbz, Zb0, Zb1, Zb2, decide_true, decide_false, Zb3, Zb4, Zb5, Zb6, Zb7, Zb8, Zb9, Zca, Zcb, Zcc, Zcd, beq_self_eq_true, cond_true, cond_false, if_false, if_true, reduceIte, reduceCtorEq, not_true_eq_false, not_false_eq_true, true_and, and_true, forall_const, false_and, and_false, implies_true, Zce, Zcf, Zcg, Zch, Zci]
  refine ⟨fun h1 => ?_, fun h1 => ?_⟩
  · have h1 := of_decide_eq_true h1
    exact ⟨[], by simp, .long (by omega)⟩
  have h1 := of_decide_eq_false h1
  have hs2 : s.length ≤ 65536 := by omega
  refine CallE.pure (blank_pure F s (by omega)) ?_
  simp (disch := omega) only [↓ZD, ZU, ne_eq, Zaa, Zab, false_implies, Zac, Zad, Zae, Zaf, Zag, Zah, Zai, Zaj, Zak, Zal, Zam, Zan, Zao, Zap, Zaq, Zar, Zas, Zat, Zau, Zav, Zaw, Zax, Zay, Zaz, Za0, Za1, Za2, Za3, Za4, Za5, Za6, Za7, Za8, Za9, Zba, Zbb, Zbc, Zbd, Zbe, Zbf, Zbg, Zbh, Zbi, Zbj, Zbk, Zbl, Zbm, Zbn, Zbo, Zbp, Zbq, Zbr, Zbs, Zbt, Zbu, Zbv, Zbw, Zbx, Zby, Zbz, Zb0, Zb1, Zb2, decide_true, decide_false, Zb3, Zb4, Zb5, Zb6, Zb7, Zb8, Zb9, Zca, Zcb, Zcc, Zcd, beq_self_eq_true, cond_true, cond_false, if_false, if_true, reduceIte, reduceCtorEq, not_true_eq_false, not_false_eq_true, true_and, and_true, forall_const, false_and, and_false, implies_true, Zce, Zcf, Zcg, Zch, Zci]
  have hb0 := blankN_le s
  refine LoopL.inv (α := Nat × Nat × List (Wd × Nat) × Value × Hp) (fun x => x.2.1 ≤ s.length ∧ s.length < x.2.1 + x.1 ∧ x.2.2.1.length ≤ x.2.1 ∧ (words s = match w1 x.1 x.2.1 (s.drop x.2.1) with | .error z => .error z | .ok l => .ok (x.2.2.1 ++ l)) ∧ OwnS F 4 34 (cellsW x.2.2.1) x.2.2.1.length x.2.2.2.1 x.2.2.2.2)
    (fun x => [(0, some (.string (bs s))), (5, some x.2.2.2.1), (6, some (.int .i64 x.2.1))])
    (fun x => x.2.2.2.2) (fun x => x.1) (s.length + 1, blankN s, [], .slice none 0 0, []) ⟨hb0, by simp only; omega, by simp, by
      show words s = match w1 (s.length + 1) (blankN s) (s.drop (blankN s)) with | .error z => .error z | .ok l => .ok ([] ++ l)
      unfold words
      split <;> simp_all, .nil⟩ (by (simp only [Le_nil, Le_cons]; simp (disch := omega) only [↓ZD, ZU, ne_eq, Zaa, Zab, false_implies, Zac, Zad, Zae, Zaf, Zag, Zah, Zai, Zaj, Zak, Zal, Zam, Zan, Zao, Zap, Zaq, Zar, Zas, Zat, Zau, Zav, Zaw, Zax, Zay, Zaz, Za0, Za1, Za2, Za3, Za4, Za5, Za6, Za7, Za8, Za9, Zba, Zbb, Zbc, Zbd, Zbe, Zbf, Zbg, Zbh, Zbi, Zbj, Zbk, Zbl, Zbm, Zbn, Zbo, Zbp, Zbq, Zbr, Zbs, Zbt, Zbu, Zbv, Zbw, Zbx, Zby, Zbz, Zb0, Zb1, Zb2, decide_true, decide_false, Zb3, Zb4, Zb5, Zb6, Zb7, Zb8, Zb9, Zca, Zcb, Zcc, Zcd, beq_self_eq_true, cond_true, cond_false, if_false, if_true, reduceIte, reduceCtorEq, not_true_eq_false, not_false_eq_true, true_and, and_true, forall_const, false_and, and_false, implies_true, Zce, Zcf, Zcg, Zch, Zci]; try trivial)) (by (simp only [HLe_nil, HLe_cons]; try (simp (disch := omega) only [↓ZD, ZU, ne_eq, Zaa, Zab, false_implies, Zac, Zad, Zae, Zaf, Zag, Zah, Zai, Zaj, Zak, Zal, Zam, Zan, Zao, Zap, Zaq, Zar, Zas, Zat, Zau, Zav, Zaw, Zax, Zay, Zaz, Za0, Za1, Za2, Za3, Za4, Za5, Za6, Za7, Za8, Za9, Zba, Zbb, Zbc, Zbd, Zbe, Zbf, Zbg, Zbh, Zbi, Zbj, Zbk, Zbl, Zbm, Zbn, Zbo, Zbp, Zbq, Zbr, Zbs, Zbt, Zbu, Zbv, Zbw, Zbx, Zby, Zbz, Zb0, Zb1, Zb2, decide_true, decide_false, Zb3, Zb4, Zb5, Zb6, Zb7, Zb8, Zb9, Zca, Zcb, Zcc, Zcd, beq_self_eq_true, cond_true, cond_false, if_false, if_true, reduceIte, reduceCtorEq, not_true_eq_false, not_false_eq_true, true_and, and_true, forall_const, false_and, and_false, implies_true, Zce, Zcf, Zcg, Zch, Zci]))) ?_
  rintro ⟨n, at_, out, v, Ho⟩ ⟨hi, hn, hl, hu, ho⟩
  simp only at hi hn hl hu ho
  obtain ⟨n, rfl⟩ : ∃ m, n = m + 1 := ⟨n - 1, by omega⟩
  by_cases hlt : at_ < s.length
  · have hd : ((at_ : Int) == (s.length : Int)) = false := by simp; omega
    have hdl : (s.drop at_).length = s.length - at_ := List.length_drop
    have hne : s.drop at_ ≠ [] := fun e => by rw [e] at hdl; simp at hdl; omega
    rw [w1, if_neg hne] at hu
    simp (disch := omega) only [hd, Int.toNat_natCast, List.take_length, ↓ZD, ZU, ne_eq, Zaa, Zab, false_implies, Zac, Zad, Zae, Zaf, Zag, Zah, Zai, Zaj, Zak, Zal, Zam, Zan, Zao, Zap, Zaq, Zar, Zas, Zat, Zau, Zav, Zaw, Zax, Zay, Zaz, Za0, Za1, Za2, Za3, Za4, Za5, Za6, Za7, Za8, Za9, Zba, Zbb, Zbc, Zbd, Zbe, Zbf, Zbg, Zbh, Zbi, Zbj, Zbk, Zbl, Zbm, Zbn, Zbo, Zbp, Zbq, Zbr, Zbs, Zbt, Zbu, Zbv, Zbw, Zbx, Zby, Zbz, Zb0, Zb1, Zb2, decide_true, decide_false, Zb3, Zb4, Zb5, Zb6, Zb7, Zb8, Zb9, Zca, Zcb, Zcc, Zcd, beq_self_eq_true, cond_true, cond_false, if_false, if_true, reduceIte, reduceCtorEq, not_true_eq_false, not_false_eq_true, true_and, and_true, forall_const, false_and, and_false, implies_true, Zce, Zcf, Zcg, Zch, Zci]
    refine conj.of (by omega) ?_
    simp (disch := omega) only [hd, Int.toNat_natCast, List.take_length, ↓ZD, ZU, ne_eq, Zaa, Zab, false_implies, Zac, Zad, Zae, Zaf, Zag, Zah, Zai, Zaj, Zak, Zal, Zam, Zan, Zao, Zap, Zaq, Zar, Zas, Zat, Zau, Zav, Zaw, Zax, Zay, Zaz, Za0, Za1, Za2, Za3, Za4, Za5, Za6, Za7, Za8, Za9, Zba, Zbb, Zbc, Zbd, Zbe, Zbf, Zbg, Zbh, Zbi, Zbj, Zbk, Zbl, Zbm, Zbn, Zbo, Zbp, Zbq, Zbr, Zbs, Zbt, Zbu, Zbv, Zbw, Zbx, Zby, Zbz, Zb0, Zb1, Zb2, decide_true, decide_false, Zb3, Zb4, Zb5, Zb6, Zb7, Zb8, Zb9, Zca, Zcb, Zcc, Zcd, beq_self_eq_true, cond_true, cond_false, if_false, if_true, reduceIte, reduceCtorEq, not_true_eq_false, not_false_eq_true, true_and, and_true, forall_const, false_and, and_false, implies_true, Zce, Zcf, Zcg, Zch, Zci]
    refine CallE.pure (lone_pure F hg (s.drop at_) (by omega) (by omega)) ?_
    unfold oneV
    simp (disch := omega) only [↓ZD, ZU, ne_eq, Zaa, Zab, false_implies, Zac, Zad, Zae, Zaf, Zag, Zah, Zai, Zaj, Zak, Zal, Zam, Zan, Zao, Zap, Zaq, Zar, Zas, Zat, Zau, Zav, Zaw, Zax, Zay, Zaz, Za0, Za1, Za2, Za3, Za4, Za5, Za6, Za7, Za8, Za9, Zba, Zbb, Zbc, Zbd, Zbe, Zbf, Zbg, Zbh, Zbi, Zbj, Zbk, Zbl, Zbm, Zbn, Zbo, Zbp, Zbq, Zbr, Zbs, Zbt, Zbu, Zbv, Zbw, Zbx, Zby, Zbz, Zb0, Zb1, Zb2, decide_true, decide_false, Zb3, Zb4, Zb5, Zb6, Zb7, Zb8, Zb9, Zca, Zcb, Zcc, Zcd, beq_self_eq_true, cond_true, cond_false, if_false, if_true, reduceIte, reduceCtorEq, not_true_eq_false, not_false_eq_true, true_and, and_true, forall_const, false_and, and_false, implies_true, Zce, Zcf, Zcg, Zch, Zci]
    refine NewB.of fun b hb hF => ?_
    have hup : ∀ o, upd Ho b o = Ho := fun o => upd_new hb
    simp (disch := omega) only [hF, hup, ↓ZD, ZU, ne_eq, Zaa, Zab, false_implies, Zac, Zad, Zae, Zaf, Zag, Zah, Zai, Zaj, Zak, Zal, Zam, Zan, Zao, Zap, Zaq, Zar, Zas, Zat, Zau, Zav, Zaw, Zax, Zay, Zaz, Za0, Za1, Za2, Za3, Za4, Za5, Za6, Za7, Za8, Za9, Zba, Zbb, Zbc, Zbd, Zbe, Zbf, Zbg, Zbh, Zbi, Zbj, Zbk, Zbl, Zbm, Zbn, Zbo, Zbp, Zbq, Zbr, Zbs, Zbt, Zbu, Zbv, Zbw, Zbx, Zby, Zbz, Zb0, Zb1, Zb2, decide_true, decide_false, Zb3, Zb4, Zb5, Zb6, Zb7, Zb8, Zb9, Zca, Zcb, Zcc, Zcd, beq_self_eq_true, cond_true, cond_false, if_false, if_true, reduceIte, reduceCtorEq, not_true_eq_false, not_false_eq_true, true_and, and_true, forall_const, false_and, and_false, implies_true, Zce, Zcf, Zcg, Zch, Zci]
    have hsl : ∀ k, (s.drop at_).drop k = s.drop (at_ + k) := fun k => List.drop_drop
    unfold tok at hu
    refine ⟨fun he => ?_, fun he => ?_⟩
    · have he : (oneX (s.drop at_)).2.2 ≠ 0 := by simpa using he
      rw [if_pos he] at hu
      exact ⟨[], by simp, .err hs2 hu⟩
    have he : (oneX (s.drop at_)).2.2 = 0 := by simpa using he
    rw [if_neg (by simpa using he)] at hu
    refine ⟨fun hz => ?_, fun hz => ?_⟩
    · have hz : (oneX (s.drop at_)).2.1 = 0 := by
        have : ((oneX (s.drop at_)).2.1 : Int) = 0 := by simpa using hz
        omega
      rw [if_pos hz] at hu
      exact ⟨[], by simp, .err hs2 hu⟩
    have hz : (oneX (s.drop at_)).2.1 ≠ 0 := by
      have : ¬ ((oneX (s.drop at_)).2.1 : Int) = 0 := by simpa using hz
      omega
    rw [if_neg hz] at hu
    have hol := oneX_le hne
    simp only at hu
    revert hu hol hz
    generalize (oneX (s.drop at_)).2.1 = m
    generalize (oneX (s.drop at_)).1 = w
    intro hu hol hz
    refine NewB.of fun b1 hb1 hF1 => ?_
    simp (disch := omega) only [hF, hF1, hup, ↓ZD, ZU, ne_eq, Zaa, Zab, false_implies, Zac, Zad, Zae, Zaf, Zag, Zah, Zai, Zaj, Zak, Zal, Zam, Zan, Zao, Zap, Zaq, Zar, Zas, Zat, Zau, Zav, Zaw, Zax, Zay, Zaz, Za0, Za1, Za2, Za3, Za4, Za5, Za6, Za7, Za8, Za9, Zba, Zbb, Zbc, Zbd, Zbe, Zbf, Zbg, Zbh, Zbi, Zbj, Zbk, Zbl, Zbm, Zbn, Zbo, Zbp, Zbq, Zbr, Zbs, Zbt, Zbu, Zbv, Zbw, Zbx, Zby, Zbz, Zb0, Zb1, Zb2, decide_true, decide_false, Zb3, Zb4, Zb5, Zb6, Zb7, Zb8, Zb9, Zca, Zcb, Zcc, Zcd, beq_self_eq_true, cond_true, cond_false, if_false, if_true, reduceIte, reduceCtorEq, not_true_eq_false, not_false_eq_true, true_and, and_true, forall_const, false_and, and_false, implies_true, Zce, Zcf, Zcg, Zch, Zci]
    simp only [List.forall_mem_cons] at hb1
    refine EfL.grow (Hr := []) (m := 1) (nw := wdV w at_) ho (ho.lk [_, _] (by simp only [List.forall_mem_cons, List.not_mem_nil, false_implies, implies_true, and_true]; exact ⟨hb1.2, hb⟩)) (by simp) (by simp) ?_ rfl (by simp [oneCell, wdV]) (by simp [wdV]) (by omega) ?_
    · simp (disch := omega) only [hF, hF1, ↓ZD, ZU, ne_eq, Zaa, Zab, false_implies, Zac, Zad, Zae, Zaf, Zag, Zah, Zai, Zaj, Zak, Zal, Zam, Zan, Zao, Zap, Zaq, Zar, Zas, Zat, Zau, Zav, Zaw, Zax, Zay, Zaz, Za0, Za1, Za2, Za3, Za4, Za5, Za6, Za7, Za8, Za9, Zba, Zbb, Zbc, Zbd, Zbe, Zbf, Zbg, Zbh, Zbi, Zbj, Zbk, Zbl, Zbm, Zbn, Zbo, Zbp, Zbq, Zbr, Zbs, Zbt, Zbu, Zbv, Zbw, Zbx, Zby, Zbz, Zb0, Zb1, Zb2, decide_true, decide_false, Zb3, Zb4, Zb5, Zb6, Zb7, Zb8, Zb9, Zca, Zcb, Zcc, Zcd, beq_self_eq_true, cond_true, cond_false, if_false, if_true, reduceIte, reduceCtorEq, not_true_eq_false, not_false_eq_true, true_and, and_true, forall_const, false_and, and_false, implies_true, Zce, Zcf, Zcg, Zch, Zci]
      rfl
    intro b2 cap sp hs3 hc2 hcm hF2 hne2
    simp (disch := omega) only [hF2, ↓ZD, ZU, ne_eq, Zaa, Zab, false_implies, Zac, Zad, Zae, Zaf, Zag, Zah, Zai, Zaj, Zak, Zal, Zam, Zan, Zao, Zap, Zaq, Zar, Zas, Zat, Zau, Zav, Zaw, Zax, Zay, Zaz, Za0, Za1, Za2, Za3, Za4, Za5, Za6, Za7, Za8, Za9, Zba, Zbb, Zbc, Zbd, Zbe, Zbf, Zbg, Zbh, Zbi, Zbj, Zbk, Zbl, Zbm, Zbn, Zbo, Zbp, Zbq, Zbr, Zbs, Zbt, Zbu, Zbv, Zbw, Zbx, Zby, Zbz, Zb0, Zb1, Zb2, decide_true, decide_false, Zb3, Zb4, Zb5, Zb6, Zb7, Zb8, Zb9, Zca, Zcb, Zcc, Zcd, beq_self_eq_true, cond_true, cond_false, if_false, if_true, reduceIte, reduceCtorEq, not_true_eq_false, not_false_eq_true, true_and, and_true, forall_const, false_and, and_false, implies_true, Zce, Zcf, Zcg, Zch, Zci]
    refine conj.of (by omega) ?_
    simp (disch := omega) only [hF2, Int.toNat_natCast, List.take_length, ↓ZD, ZU, ne_eq, Zaa, Zab, false_implies, Zac, Zad, Zae, Zaf, Zag, Zah, Zai, Zaj, Zak, Zal, Zam, Zan, Zao, Zap, Zaq, Zar, Zas, Zat, Zau, Zav, Zaw, Zax, Zay, Zaz, Za0, Za1, Za2, Za3, Za4, Za5, Za6, Za7, Za8, Za9, Zba, Zbb, Zbc, Zbd, Zbe, Zbf, Zbg, Zbh, Zbi, Zbj, Zbk, Zbl, Zbm, Zbn, Zbo, Zbp, Zbq, Zbr, Zbs, Zbt, Zbu, Zbv, Zbw, Zbx, Zby, Zbz, Zb0, Zb1, Zb2, decide_true, decide_false, Zb3, Zb4, Zb5, Zb6, Zb7, Zb8, Zb9, Zca, Zcb, Zcc, Zcd, beq_self_eq_true, cond_true, cond_false, if_false, if_true, reduceIte, reduceCtorEq, not_true_eq_false, not_false_eq_true, true_and, and_true, forall_const, false_and, and_false, implies_true, Zce, Zcf, Zcg, Zch, Zci]
    rw [hsl] at hu
    have e1 : ((at_ : Int) + (m : Int)).toNat = at_ + m := by omega
    have hbl := blankN_le (s.drop (at_ + m))
    rw [List.length_drop] at hbl
    simp only [e1]
    refine CallE.pure (blank_pure F (s.drop (at_ + m)) (by rw [List.length_drop]; omega)) ?_
    simp (disch := omega) only [hF2, ↓ZD, ZU, ne_eq, Zaa, Zab, false_implies, Zac, Zad, Zae, Zaf, Zag, Zah, Zai, Zaj, Zak, Zal, Zam, Zan, Zao, Zap, Zaq, Zar, Zas, Zat, Zau, Zav, Zaw, Zax, Zay, Zaz, Za0, Za1, Za2, Za3, Za4, Za5, Za6, Za7, Za8, Za9, Zba, Zbb, Zbc, Zbd, Zbe, Zbf, Zbg, Zbh, Zbi, Zbj, Zbk, Zbl, Zbm, Zbn, Zbo, Zbp, Zbq, Zbr, Zbs, Zbt, Zbu, Zbv, Zbw, Zbx, Zby, Zbz, Zb0, Zb1, Zb2, decide_true, decide_false, Zb3, Zb4, Zb5, Zb6, Zb7, Zb8, Zb9, Zca, Zcb, Zcc, Zcd, beq_self_eq_true, cond_true, cond_false, if_false, if_true, reduceIte, reduceCtorEq, not_true_eq_false, not_false_eq_true, true_and, and_true, forall_const, false_and, and_false, implies_true, Zce, Zcf, Zcg, Zch, Zci]
    rw [hsl, ← Nat.add_assoc] at hu
    refine invK.on (n, at_ + m + blankN (s.drop (at_ + m)), out ++ [(w, at_)], .slice (some ⟨b2, 0, none⟩) (out.length + 1) cap, [(b2, .cells (cellsW out ++ wdV w at_ ++ sp).toArray 34 (0, 0))]) ⟨?_, ?_, ?_, ?_, OwnS.mk sp hF2 (by rw [cellsW_app]; rfl) (by simp) (by rw [cellsW_len]) (by simpa using hs3) (by simpa using hc2) hcm⟩ (by simp only; omega) (by (simp only [Le_nil, Le_cons]; simp (disch := omega) only [↓ZD, ZU, ne_eq, Zaa, Zab, false_implies, Zac, Zad, Zae, Zaf, Zag, Zah, Zai, Zaj, Zak, Zal, Zam, Zan, Zao, Zap, Zaq, Zar, Zas, Zat, Zau, Zav, Zaw, Zax, Zay, Zaz, Za0, Za1, Za2, Za3, Za4, Za5, Za6, Za7, Za8, Za9, Zba, Zbb, Zbc, Zbd, Zbe, Zbf, Zbg, Zbh, Zbi, Zbj, Zbk, Zbl, Zbm, Zbn, Zbo, Zbp, Zbq, Zbr, Zbs, Zbt, Zbu, Zbv, Zbw, Zbx, Zby, Zbz, Zb0, Zb1, Zb2, decide_true, decide_false, Zb3, Zb4, Zb5, Zb6, Zb7, Zb8, Zb9, Zca, Zcb, Zcc, Zcd, beq_self_eq_true, cond_true, cond_false, if_false, if_true, reduceIte, reduceCtorEq, not_true_eq_false, not_false_eq_true, true_and, and_true, forall_const, false_and, and_false, implies_true, Zce, Zcf, Zcg, Zch, Zci]; try trivial)) ?_
    · simp only; omega
    · simp only; omega
    · simp only [List.length_append, List.length_singleton]; omega
    · rw [hu]
      simp only
      cases w1 n (at_ + m + blankN (s.drop (at_ + m))) (s.drop (at_ + m + blankN (s.drop (at_ + m)))) with
      | error x => rfl
      | ok l => simp only [List.append_assoc, List.cons_append, List.nil_append]
    · (simp only [HLe_nil, HLe_cons]; try (simp (disch := omega) only [↓ZD, ZU, ne_eq, Zaa, Zab, false_implies, Zac, Zad, Zae, Zaf, Zag, Zah, Zai, Zaj, Zak, Zal, Zam, Zan, Zao, Zap, Zaq, Zar, Zas, Zat, Zau, Zav, Zaw, Zax, Zay, Zaz, Za0, Za1, Za2, Za3, Za4, Za5, Za6, Za7, Za8, Za9, Zba, Zbb, Zbc, Zbd, Zbe, Zbf, Zbg, Zbh, Zbi, Zbj, Zbk, Zbl, Zbm, Zbn, Zbo, Zbp, Zbq, Zbr, Zbs, Zbt, Zbu, Zbv, Zbw, Zbx, Zby, Zbz, Zb0, Zb1, Zb2, decide_true, decide_false, Zb3, Zb4, Zb5, Zb6, Zb7, Zb8, Zb9, Zca, Zcb, Zcc, Zcd, beq_self_eq_true, cond_true, cond_false, if_false, if_true, reduceIte, reduceCtorEq, not_true_eq_false, not_false_eq_true, true_and, and_true, forall_const, false_and, and_false, implies_true, Zce, Zcf, Zcg, Zch, Zci]))
  · have hd : ((at_ : Int) == (s.length : Int)) = true := by simp; omega
    obtain rfl : at_ = s.length := by omega
    rw [List.drop_length, w1, if_pos rfl] at hu
    simp only at hu
    simp (disch := omega) only [hd, ↓ZD, ZU, ne_eq, Zaa, Zab, false_implies, Zac, Zad, Zae, Zaf, Zag, Zah, Zai, Zaj, Zak, Zal, Zam, Zan, Zao, Zap, Zaq, Zar, Zas, Zat, Zau, Zav, Zaw, Zax, Zay, Zaz, Za0, Za1, Za2, Za3, Za4, Za5, Za6, Za7, Za8, Za9, Zba, Zbb, Zbc, Zbd, Zbe, Zbf, Zbg, Zbh, Zbi, Zbj, Zbk, Zbl, Zbm, Zbn, Zbo, Zbp, Zbq, Zbr, Zbs, Zbt, Zbu, Zbv, Zbw, Zbx, Zby, Zbz, Zb0, Zb1, Zb2, decide_true, decide_false, Zb3, Zb4, Zb5, Zb6, Zb7, Zb8, Zb9, Zca, Zcb, Zcc, Zcd, beq_self_eq_true, cond_true, cond_false, if_false, if_true, reduceIte, reduceCtorEq, not_true_eq_false, not_false_eq_true, true_and, and_true, forall_const, false_and, and_false, implies_true, Zce, Zcf, Zcg, Zch, Zci]
    refine NewB.of fun b hb hF => ?_
    simp (disch := omega) only [hF, ↓ZD, ZU, ne_eq, Zaa, Zab, false_implies, Zac, Zad, Zae, Zaf, Zag, Zah, Zai, Zaj, Zak, Zal, Zam, Zan, Zao, Zap, Zaq, Zar, Zas, Zat, Zau, Zav, Zaw, Zax, Zay, Zaz, Za0, Za1, Za2, Za3, Za4, Za5, Za6, Za7, Za8, Za9, Zba, Zbb, Zbc, Zbd, Zbe, Zbf, Zbg, Zbh, Zbi, Zbj, Zbk, Zbl, Zbm, Zbn, Zbo, Zbp, Zbq, Zbr, Zbs, Zbt, Zbu, Zbv, Zbw, Zbx, Zby, Zbz, Zb0, Zb1, Zb2, decide_true, decide_false, Zb3, Zb4, Zb5, Zb6, Zb7, Zb8, Zb9, Zca, Zcb, Zcc, Zcd, beq_self_eq_true, cond_true, cond_false, if_false, if_true, reduceIte, reduceCtorEq, not_true_eq_false, not_false_eq_true, true_and, and_true, forall_const, false_and, and_false, implies_true, Zce, Zcf, Zcg, Zch, Zci]
    refine EfL.grow (Hr := []) (m := 1) (nw := wdV (0, [], 0) s.length) ho (ho.lk [_] (by simp only [List.forall_mem_cons, List.not_mem_nil, false_implies, implies_true, and_true]; exact hb)) (by simp) (by simp) ?_ rfl (by simp [oneCell, wdV]) (by simp [wdV]) (by omega) ?_
    · simp (disch := omega) only [hF, ↓ZD, ZU, ne_eq, Zaa, Zab, false_implies, Zac, Zad, Zae, Zaf, Zag, Zah, Zai, Zaj, Zak, Zal, Zam, Zan, Zao, Zap, Zaq, Zar, Zas, Zat, Zau, Zav, Zaw, Zax, Zay, Zaz, Za0, Za1, Za2, Za3, Za4, Za5, Za6, Za7, Za8, Za9, Zba, Zbb, Zbc, Zbd, Zbe, Zbf, Zbg, Zbh, Zbi, Zbj, Zbk, Zbl, Zbm, Zbn, Zbo, Zbp, Zbq, Zbr, Zbs, Zbt, Zbu, Zbv, Zbw, Zbx, Zby, Zbz, Zb0, Zb1, Zb2, decide_true, decide_false, Zb3, Zb4, Zb5, Zb6, Zb7, Zb8, Zb9, Zca, Zcb, Zcc, Zcd, beq_self_eq_true, cond_true, cond_false, if_false, if_true, reduceIte, reduceCtorEq, not_true_eq_false, not_false_eq_true, true_and, and_true, forall_const, false_and, and_false, implies_true, Zce, Zcf, Zcg, Zch, Zci]
      rfl
    intro b2 cap sp hs3 hc2 hcm hF2 hne
    simp (disch := omega) only [hF2, ↓ZD, ZU, ne_eq, Zaa, Zab, false_implies, Zac, Zad, Zae, Zaf, Zag, Zah, Zai, Zaj, Zak, Zal, Zam, Zan, Zao, Zap, Zaq, Zar, Zas, Zat, Zau, Zav, Zaw, Zax, Zay, Zaz, Za0, Za1, Za2, Za3, Za4, Za5, Za6, Za7, Za8, Za9, Zba, Zbb, Zbc, Zbd, Zbe, Zbf, Zbg, Zbh, Zbi, Zbj, Zbk, Zbl, Zbm, Zbn, Zbo, Zbp, Zbq, Zbr, Zbs, Zbt, Zbu, Zbv, Zbw, Zbx, Zby, Zbz, Zb0, Zb1, Zb2, decide_true, decide_false, Zb3, Zb4, Zb5, Zb6, Zb7, Zb8, Zb9, Zca, Zcb, Zcc, Zcd, beq_self_eq_true, cond_true, cond_false, if_false, if_true, reduceIte, reduceCtorEq, not_true_eq_false, not_false_eq_true, true_and, and_true, forall_const, false_and, and_false, implies_true, Zce, Zcf, Zcg, Zch, Zci]
    refine ⟨_, fun e he => he, .ok hs2 hu (OwnS.mk sp hF2 (by rw [cellsW_app]; rfl) (by simp) (by rw [cellsW_len]) (by simpa using hs3) (by simpa using hc2) hcm)⟩
end Go.Proofs.YtndnpmlhofijjaaDoor
