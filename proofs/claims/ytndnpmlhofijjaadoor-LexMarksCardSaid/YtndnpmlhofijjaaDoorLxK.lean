/- Layer 7: blanks ahead. -/
import Derived.Test.YtndnpmlhofijjaaDoorLxJ
namespace Go.Proofs.YtndnpmlhofijjaaDoor
open Go Go.Eng
open Int renaming reduceEq → Zaa, cast_ofNat_Int → Zac, reduceToNat → Zbu, toNat_zero → Zbv, toNat_one → Zbw, reduceLE → Zbx, reduceLT → Zby, reduceAdd → Zbz, reduceSub → Zb0, reduceNeg → Zb1, zero_add → Zb2, reducePow → Zcg, reduceNegSucc → Zci
open UInt8 renaming reduceOfNat → Zab
open List renaming toList_toArray → Zad, length_append → Zag, cons_append → Zav, nil_append → Zaw, length_cons → Zax, length_nil → Zay, drop_zero → Zaz, drop_succ_cons → Za0, take_succ_cons → Za1, take_zero → Za2, drop_nil → Za3, take_nil → Za4, append_nil → Za5, all_cons → Za6, all_nil → Za7, isEmpty_cons → Za8, size_toArray → Za9, getElem?_toArray → Zba, getElem?_cons_zero → Zbb, getElem?_cons_succ → Zbc, getD_cons_zero → Zbd, getD_cons_succ → Zbe, mapM_cons → Zbf, mapM_nil → Zbg
open Option renaming getD_some → Zae, getD_none → Zaf, map_some → Zar, map_none → Zas, bind_some → Zat, bind_none → Zau
open Nat renaming le_add_right → Zah, reduceAdd → Zbi, reduceMul → Zbj, reduceMod → Zbk, reduceDiv → Zbl, reduceEqDiff → Zbm, reduceBEq → Zbn, reduceLeDiff → Zbo, reduceSub → Zbp, zero_add → Zbq, add_zero → Zbr, le_refl → Zbs, zero_le → Zbt, reducePow → Zcf, reduceLT → Zch
open Go.Eng renaming subG → Zai, lit → Zaj, isPar → Zak, numb → Zal, Wf → Zam, resV → Zan, oneCell → Zao, isB → Zap, asB → Zaq
open Go.Value renaming cells → Zbh
open Bool renaming and_true → Zb3, true_and → Zb4, and_self → Zb5, not_true → Zb6, not_false → Zb7, and_false → Zb8, or_false → Zb9, or_true → Zca, true_or → Zcb, false_or → Zcc, false_and → Zcd, false_eq_true → Zce
set_option linter.unusedSimpArgs false
set_option linter.unusedVariables false
set_option maxRecDepth 20000

def shiftW (k : Nat) : Except (Int × Nat) (List (Wd × Nat)) → Except (Int × Nat) (List (Wd × Nat))
  | .error (e, a) => .error (e, a + k)
  | .ok l => .ok (l.map fun x => (x.1, x.2 + k))
theorem w1_shift (k : Nat) : ∀ (n a : Nat) (s : List UInt8), w1 n (a + k) s = shiftW k (w1 n a s)
  | 0, _, _ => rfl
  | n + 1, a, s => by
    rw [w1, w1]
    split
    · rfl
    · split
      · rfl
      · rename_i w m _
        rw [show a + k + m + blankN (s.drop m) = a + m + blankN (s.drop m) + k by omega, w1_shift k n]
        cases w1 n (a + m + blankN (s.drop m)) (s.drop (m + blankN (s.drop m))) with
        | error x => rfl
        | ok l => rfl
theorem w1_fuel : ∀ (n m a : Nat) (s : List UInt8), s.length < n → n ≤ m → w1 m a s = w1 n a s
  | 0, _, _, _, h, _ => absurd h (by omega)
  | n + 1, 0, _, _, _, h => absurd h (by omega)
  | n + 1, m + 1, a, s, h, hm => by
    rw [w1, w1]
    split
    · rfl
    · split
      · rfl
      · rename_i hs _ w k hk
        have h0 := tok_len hk
        have h1 := tok_le hs hk
        rw [w1_fuel n m _ _ (by rw [List.length_drop]; omega) (by omega)]
theorem words_fuel (s : List UInt8) (n : Nat) (h : s.length < n) : words s = w1 n (blankN s) (s.drop (blankN s)) := by
  unfold words
  rcases Nat.lt_or_ge n (s.length + 1) with h1 | h1
  · omega
  · rw [w1_fuel (s.length + 1) n _ _ (by rw [List.length_drop]; omega) h1]
theorem blankN_all {A t : List UInt8} (h : A.all isB = true) : blankN (A ++ t) = A.length + blankN t := by
  induction A with
  | nil => simp
  | cons c A ih =>
    rw [List.all_cons, Bool.and_eq_true] at h
    rw [List.cons_append, blankN_cons, if_pos h.1, ih h.2, List.length_cons]; omega
theorem blankN_rem (t : List UInt8) : blankN (47 :: 47 :: 32 :: 120 :: 10 :: t) = 5 + blankN t := by
  rw [blankN_cons, if_neg (by decide), if_pos (by rfl)]
  have e : ((47 :: 47 :: 32 :: 120 :: 10 :: t : List UInt8).takeWhile fun c => ((c.toNat : Int) != 10)) = [47, 47, 32, 120] := by
    simp [List.takeWhile_cons]
  rw [e]
  show 4 + blankN (10 :: t) = _
  rw [blankN_cons, if_pos (by decide)]; omega
theorem words_ahead {A t : List UInt8} (h : A.all isB = true) : words (A ++ 47 :: 47 :: 32 :: 120 :: 10 :: t) = shiftW (A.length + 5) (words t) := by
  have hb : blankN (A ++ 47 :: 47 :: 32 :: 120 :: 10 :: t) = A.length + 5 + blankN t := by rw [blankN_all h, blankN_rem]; omega
  rw [words_fuel t ((A ++ 47 :: 47 :: 32 :: 120 :: 10 :: t).length + 1) (by simp; omega), words, hb, ← w1_shift, Nat.add_comm (blankN t)]
  congr 1
  have e : A ++ 47 :: 47 :: 32 :: 120 :: 10 :: t = (A ++ [47, 47, 32, 120, 10]) ++ t := by simp
  rw [e, show A.length + 5 + blankN t = (A ++ [47, 47, 32, 120, 10]).length + blankN t by simp, ← List.drop_drop, List.drop_left]
/-- Blanks alone. -/
theorem words_blank {A : List UInt8} (h : A.all isB = true) : words A = .ok [((0, [], 0), A.length)] := by
  have := blankN_all (t := []) h
  rw [List.append_nil] at this
  rw [show blankN [] = 0 from rfl, Nat.add_zero] at this
  rw [words, this, List.drop_length, w1, if_pos rfl]
theorem and3 (x : Int) : (BitVec.ofInt 8 x &&& BitVec.ofInt 8 3).toNat < 4 := by
  rw [BitVec.toNat_and]
  exact Nat.lt_of_le_of_lt Nat.and_le_right (by decide)
theorem and63 (x : Int) : (BitVec.ofInt 64 x &&& BitVec.ofInt 64 63).toNat ≤ 63 := by
  rw [BitVec.toNat_and]
  exact Nat.le_trans Nat.and_le_right (by decide)
def inW (k : Nat) : Except (Int × Nat) (List (Wd × Nat)) → Prop
  | .error (e, p) => e ≠ 0 ∧ p ≤ k
  | .ok l => ∀ x ∈ l, x.2 ≤ k
theorem tok_err {s : List UInt8} {e : Int} (h : tok s = .error e) : e ≠ 0 := by
  unfold tok at h
  split at h
  · injection h with h; subst h; assumption
  · split at h
    · injection h with h; subst h; decide
    · cases h
theorem w1_in : ∀ (n a : Nat) (s : List UInt8), inW (a + s.length) (w1 n a s)
  | 0, _, _ => fun x hx => by cases hx
  | n + 1, a, s => by
    rw [w1]
    split
    · intro x hx
      obtain rfl := List.mem_singleton.1 hx
      exact Nat.le_add_right _ _
    · split
      · rename_i hk
        exact ⟨tok_err hk, Nat.le_add_right _ _⟩
      · rename_i hs _ w k hk
        have h1 := tok_le hs hk
        have h2 := blankN_le (s.drop k)
        have h3 := w1_in n (a + k + blankN (s.drop k)) (s.drop (k + blankN (s.drop k)))
        rw [List.length_drop] at h2 h3
        rw [show a + k + blankN (s.drop k) + (s.length - (k + blankN (s.drop k))) = a + s.length by omega] at h3
        cases hw : w1 n (a + k + blankN (s.drop k)) (s.drop (k + blankN (s.drop k))) with
        | error x => rw [hw] at h3; exact h3
        | ok l =>
          rw [hw] at h3
          intro x hx
          rcases List.mem_cons.1 hx with rfl | hx
          · exact Nat.le_add_right _ _
          · exact h3 x hx
theorem words_in (s : List UInt8) : inW s.length (words s) := by
  have h := w1_in (s.length + 1) (blankN s) (s.drop (blankN s))
  have h2 := blankN_le s
  rwa [List.length_drop, show blankN s + (s.length - blankN s) = s.length by omega] at h
theorem words_ne {s : List UInt8} {l : List (Wd × Nat)} (h : words s = .ok l) : l.length ≠ 0 := by
  unfold words at h
  rw [w1] at h
  split at h
  · injection h with h; subst h; simp
  · split at h
    · cases h
    · split at h
      · cases h
      · injection h with h; subst h; simp
theorem blanks_law (F : Base) (hg : HasMarks F) (s : List UInt8) (hs : s.length ≤ 9223372036854775807) (a : Option Addr) (len cap : Nat) (g : Nat → Int) (hb : BytesIn F a len g) (hl : len ≤ 9223372036854775807) : PureV Tryd.prog F 4 #[.string (bs s), .slice a len cap] (.bool true) := by
  obtain ⟨hgb, hr⟩ := hb
  refine pureV_of_svc mixed Tryd.func4 low4 (Nat.le_of_ble_eq_true rfl) (fun w0 => ?_)
  simp (disch := omega) only [fu4, ↓ZD, ZU, ne_eq, Zaa, Zab, false_implies, Zac, Zad, Zae, Zaf, Zag, Zah, Zai, Zaj, Zak, Zal, Zam, Zan, Zao, Zap, Zaq, Zar, Zas, Zat, Zau, Zav, Zaw, Zax, Zay, Zaz, Za0, Za1, Za2, Za3, Za4, Za5, Za6, Za7, Za8, Za9, Zba, Zbb, Zbc, Zbd, Zbe, Zbf, Zbg, Zbh, Zbi, Zbj, Zbk, Zbl, Zbm, Zbn, Zbo, Zbp, Zbq, Zbr, Zbs, Zbt, Zbu, Zbv, Zbw, Zbx, Zby, Zbz, Zb0, Zb1, Zb2, decide_true, decide_false, Zb3, Zb4, Zb5, Zb6, Zb7, Zb8, Zb9, Zca, Zcb, Zcc, Zcd, beq_self_eq_true, cond_true, cond_false, if_false, if_true, reduceIte, reduceCtorEq, not_true_eq_false, not_false_eq_true, true_and, and_true, forall_const, false_and, and_false, implies_true, Zce, Zcf, Zcg, Zch, Zci]
  refine CallE.pure (wawake_pure F hg) ?_
  simp (disch := omega) only [↓ZD, ZU, ne_eq, Zaa, Zab, false_implies, Zac, Zad, Zae, Zaf, Zag, Zah, Zai, Zaj, Zak, Zal, Zam, Zan, Zao, Zap, Zaq, Zar, Zas, Zat, Zau, Zav, Zaw, Zax, Zay, Zaz, Za0, Za1, Za2, Za3, Za4, Za5, Za6, Za7, Za8, Za9, Zba, Zbb, Zbc, Zbd, Zbe, Zbf, Zbg, Zbh, Zbi, Zbj, Zbk, Zbl, Zbm, Zbn, Zbo, Zbp, Zbq, Zbr, Zbs, Zbt, Zbu, Zbv, Zbw, Zbx, Zby, Zbz, Zb0, Zb1, Zb2, decide_true, decide_false, Zb3, Zb4, Zb5, Zb6, Zb7, Zb8, Zb9, Zca, Zcb, Zcc, Zcd, beq_self_eq_true, cond_true, cond_false, if_false, if_true, reduceIte, reduceCtorEq, not_true_eq_false, not_false_eq_true, true_and, and_true, forall_const, false_and, and_false, implies_true, Zce, Zcf, Zcg, Zch, Zci]
  intro h60
  have h60' : s.length ≤ 3000 ∧ len ≤ 300 := by simp only [Bool.or_eq_false_iff, decide_eq_false_iff_not] at h60; omega
  refine LoopL.inv (α := Nat × List UInt8 × Value × Hp) (fun x => x.1 ≤ len ∧ x.2.1.length = x.1 ∧ OwnS F 1 5 (byteCells x.2.1) x.2.1.length x.2.2.1 x.2.2.2 ∧ x.2.1.all isB = true)
    (fun x => [(0, some (.string (bs s))), (1, some (.slice a len cap)), (6, some x.2.2.1), (7, some (.int .i64 x.1))])
    (fun x => x.2.2.2) (fun x => len - x.1) (0, [], .slice none 0 0, []) ⟨Nat.zero_le _, rfl, .nil, rfl⟩ (by (simp only [Le_nil, Le_cons]; simp (disch := omega) only [↓ZD, ZU, ne_eq, Zaa, Zab, false_implies, Zac, Zad, Zae, Zaf, Zag, Zah, Zai, Zaj, Zak, Zal, Zam, Zan, Zao, Zap, Zaq, Zar, Zas, Zat, Zau, Zav, Zaw, Zax, Zay, Zaz, Za0, Za1, Za2, Za3, Za4, Za5, Za6, Za7, Za8, Za9, Zba, Zbb, Zbc, Zbd, Zbe, Zbf, Zbg, Zbh, Zbi, Zbj, Zbk, Zbl, Zbm, Zbn, Zbo, Zbp, Zbq, Zbr, Zbs, Zbt, Zbu, Zbv, Zbw, Zbx, Zby, Zbz, Zb0, Zb1, Zb2, decide_true, decide_false, Zb3, Zb4, Zb5, Zb6, Zb7, Zb8, Zb9, Zca, Zcb, Zcc, Zcd, beq_self_eq_true, cond_true, cond_false, if_false, if_true, reduceIte, reduceCtorEq, not_true_eq_false, not_false_eq_true, true_and, and_true, forall_const, false_and, and_false, implies_true, Zce, Zcf, Zcg, Zch, Zci]; try trivial)) (by (simp only [HLe_nil, HLe_cons]; try (simp (disch := omega) only [↓ZD, ZU, ne_eq, Zaa, Zab, false_implies, Zac, Zad, Zae, Zaf, Zag, Zah, Zai, Zaj, Zak, Zal, Zam, Zan, Zao, Zap, Zaq, Zar, Zas, Zat, Zau, Zav, Zaw, Zax, Zay, Zaz, Za0, Za1, Za2, Za3, Za4, Za5, Za6, Za7, Za8, Za9, Zba, Zbb, Zbc, Zbd, Zbe, Zbf, Zbg, Zbh, Zbi, Zbj, Zbk, Zbl, Zbm, Zbn, Zbo, Zbp, Zbq, Zbr, Zbs, Zbt, Zbu, Zbv, Zbw, Zbx, Zby, Zbz, Zb0, Zb1, Zb2, decide_true, decide_false, Zb3, Zb4, Zb5, Zb6, Zb7, Zb8, Zb9, Zca, Zcb, Zcc, Zcd, beq_self_eq_true, cond_true, cond_false, if_false, if_true, reduceIte, reduceCtorEq, not_true_eq_false, not_false_eq_true, true_and, and_true, forall_const, false_and, and_false, implies_true, Zce, Zcf, Zcg, Zch, Zci]))) ?_
  rintro ⟨i, out, v, Ho⟩ ⟨hi, hol, ho, hall⟩
  simp only at hi hol ho hall
  by_cases hlt : i < len
  · have hd : decide ((i : Int) < (len : Int)) = true := by simp; omega
    obtain ⟨b, off, rfl, hld⟩ := hr i hlt
    have := hgb i hlt
    have h3 := and3 (g i)
    simp (disch := omega) only [hd, Int.toNat_natCast, Nat.mul_one, ↓hld, ↓ZD, ZU, ne_eq, Zaa, Zab, false_implies, Zac, Zad, Zae, Zaf, Zag, Zah, Zai, Zaj, Zak, Zal, Zam, Zan, Zao, Zap, Zaq, Zar, Zas, Zat, Zau, Zav, Zaw, Zax, Zay, Zaz, Za0, Za1, Za2, Za3, Za4, Za5, Za6, Za7, Za8, Za9, Zba, Zbb, Zbc, Zbd, Zbe, Zbf, Zbg, Zbh, Zbi, Zbj, Zbk, Zbl, Zbm, Zbn, Zbo, Zbp, Zbq, Zbr, Zbs, Zbt, Zbu, Zbv, Zbw, Zbx, Zby, Zbz, Zb0, Zb1, Zb2, decide_true, decide_false, Zb3, Zb4, Zb5, Zb6, Zb7, Zb8, Zb9, Zca, Zcb, Zcc, Zcd, beq_self_eq_true, cond_true, cond_false, if_false, if_true, reduceIte, reduceCtorEq, not_true_eq_false, not_false_eq_true, true_and, and_true, forall_const, false_and, and_false, implies_true, Zce, Zcf, Zcg, Zch, Zci]
    refine conj.of (by omega) ?_
    simp (disch := omega) only [hd, Int.toNat_natCast, Nat.mul_one, ↓hld, ↓ZD, ZU, ne_eq, Zaa, Zab, false_implies, Zac, Zad, Zae, Zaf, Zag, Zah, Zai, Zaj, Zak, Zal, Zam, Zan, Zao, Zap, Zaq, Zar, Zas, Zat, Zau, Zav, Zaw, Zax, Zay, Zaz, Za0, Za1, Za2, Za3, Za4, Za5, Za6, Za7, Za8, Za9, Zba, Zbb, Zbc, Zbd, Zbe, Zbf, Zbg, Zbh, Zbi, Zbj, Zbk, Zbl, Zbm, Zbn, Zbo, Zbp, Zbq, Zbr, Zbs, Zbt, Zbu, Zbv, Zbw, Zbx, Zby, Zbz, Zb0, Zb1, Zb2, decide_true, decide_false, Zb3, Zb4, Zb5, Zb6, Zb7, Zb8, Zb9, Zca, Zcb, Zcc, Zcd, beq_self_eq_true, cond_true, cond_false, if_false, if_true, reduceIte, reduceCtorEq, not_true_eq_false, not_false_eq_true, true_and, and_true, forall_const, false_and, and_false, implies_true, Zce, Zcf, Zcg, Zch, Zci]
    revert h3
    generalize (BitVec.ofInt 8 (g i) &&& BitVec.ofInt 8 3).toNat = k
    intro h3
    refine conj.of (by omega) ?_
    simp (disch := omega) only [↓ZD, ZU, ne_eq, Zaa, Zab, false_implies, Zac, Zad, Zae, Zaf, Zag, Zah, Zai, Zaj, Zak, Zal, Zam, Zan, Zao, Zap, Zaq, Zar, Zas, Zat, Zau, Zav, Zaw, Zax, Zay, Zaz, Za0, Za1, Za2, Za3, Za4, Za5, Za6, Za7, Za8, Za9, Zba, Zbb, Zbc, Zbd, Zbe, Zbf, Zbg, Zbh, Zbi, Zbj, Zbk, Zbl, Zbm, Zbn, Zbo, Zbp, Zbq, Zbr, Zbs, Zbt, Zbu, Zbv, Zbw, Zbx, Zby, Zbz, Zb0, Zb1, Zb2, decide_true, decide_false, Zb3, Zb4, Zb5, Zb6, Zb7, Zb8, Zb9, Zca, Zcb, Zcc, Zcd, beq_self_eq_true, cond_true, cond_false, if_false, if_true, reduceIte, reduceCtorEq, not_true_eq_false, not_false_eq_true, true_and, and_true, forall_const, false_and, and_false, implies_true, Zce, Zcf, Zcg, Zch, Zci]
    have hkb : isB (([32, 9, 10, 13] : List UInt8).getD k 0) = true := by
      have : ∀ n : Nat, n < 4 → isB (([32, 9, 10, 13] : List UInt8).getD n 0) = true := by decide +kernel
      exact this _ (by omega)
    refine NewB.of fun b1 hb1 hF1 => ?_
    simp (disch := omega) only [hF1, ↓ZD, ZU, ne_eq, Zaa, Zab, false_implies, Zac, Zad, Zae, Zaf, Zag, Zah, Zai, Zaj, Zak, Zal, Zam, Zan, Zao, Zap, Zaq, Zar, Zas, Zat, Zau, Zav, Zaw, Zax, Zay, Zaz, Za0, Za1, Za2, Za3, Za4, Za5, Za6, Za7, Za8, Za9, Zba, Zbb, Zbc, Zbd, Zbe, Zbf, Zbg, Zbh, Zbi, Zbj, Zbk, Zbl, Zbm, Zbn, Zbo, Zbp, Zbq, Zbr, Zbs, Zbt, Zbu, Zbv, Zbw, Zbx, Zby, Zbz, Zb0, Zb1, Zb2, decide_true, decide_false, Zb3, Zb4, Zb5, Zb6, Zb7, Zb8, Zb9, Zca, Zcb, Zcc, Zcd, beq_self_eq_true, cond_true, cond_false, if_false, if_true, reduceIte, reduceCtorEq, not_true_eq_false, not_false_eq_true, true_and, and_true, forall_const, false_and, and_false, implies_true, Zce, Zcf, Zcg, Zch, Zci]
    refine EfL.grow (Hr := []) (m := 1) (nw := [.int .u8 (([32, 9, 10, 13] : List UInt8).getD k 0).toNat]) ho (ho.lk [_] (by simp only [List.forall_mem_cons, List.not_mem_nil, false_implies, implies_true, and_true]; exact hb1)) (by simp) (by simp) ?_ rfl (by simp [oneCell]) (by simp) (by omega) ?_
    · simp (disch := omega) only [hF1, ↓ZD, ZU, ne_eq, Zaa, Zab, false_implies, Zac, Zad, Zae, Zaf, Zag, Zah, Zai, Zaj, Zak, Zal, Zam, Zan, Zao, Zap, Zaq, Zar, Zas, Zat, Zau, Zav, Zaw, Zax, Zay, Zaz, Za0, Za1, Za2, Za3, Za4, Za5, Za6, Za7, Za8, Za9, Zba, Zbb, Zbc, Zbd, Zbe, Zbf, Zbg, Zbh, Zbi, Zbj, Zbk, Zbl, Zbm, Zbn, Zbo, Zbp, Zbq, Zbr, Zbs, Zbt, Zbu, Zbv, Zbw, Zbx, Zby, Zbz, Zb0, Zb1, Zb2, decide_true, decide_false, Zb3, Zb4, Zb5, Zb6, Zb7, Zb8, Zb9, Zca, Zcb, Zcc, Zcd, beq_self_eq_true, cond_true, cond_false, if_false, if_true, reduceIte, reduceCtorEq, not_true_eq_false, not_false_eq_true, true_and, and_true, forall_const, false_and, and_false, implies_true, Zce, Zcf, Zcg, Zch, Zci]
    intro b2 cap2 sp hs2 hc2 hcm hF2 hne
    simp (disch := omega) only [hF2, ↓ZD, ZU, ne_eq, Zaa, Zab, false_implies, Zac, Zad, Zae, Zaf, Zag, Zah, Zai, Zaj, Zak, Zal, Zam, Zan, Zao, Zap, Zaq, Zar, Zas, Zat, Zau, Zav, Zaw, Zax, Zay, Zaz, Za0, Za1, Za2, Za3, Za4, Za5, Za6, Za7, Za8, Za9, Zba, Zbb, Zbc, Zbd, Zbe, Zbf, Zbg, Zbh, Zbi, Zbj, Zbk, Zbl, Zbm, Zbn, Zbo, Zbp, Zbq, Zbr, Zbs, Zbt, Zbu, Zbv, Zbw, Zbx, Zby, Zbz, Zb0, Zb1, Zb2, decide_true, decide_false, Zb3, Zb4, Zb5, Zb6, Zb7, Zb8, Zb9, Zca, Zcb, Zcc, Zcd, beq_self_eq_true, cond_true, cond_false, if_false, if_true, reduceIte, reduceCtorEq, not_true_eq_false, not_false_eq_true, true_and, and_true, forall_const, false_and, and_false, implies_true, Zce, Zcf, Zcg, Zch, Zci]
    refine invK.on (i + 1, out ++ [([32, 9, 10, 13] : List UInt8).getD k 0], .slice (some ⟨b2, 0, none⟩) (out.length + 1) cap2, [(b2, .cells (byteCells out ++ [Value.int .u8 (([32, 9, 10, 13] : List UInt8).getD k 0).toNat] ++ sp).toArray 5 (0, 0))]) ⟨?_, ?_, OwnS.mk sp hF2 (by rw [byteCells_app]; rfl) (by simp) (by simp [byteCells]) (by simpa using hs2) (by simpa using hc2) hcm, ?_⟩ (by simp only; omega) (by (simp only [Le_nil, Le_cons]; simp (disch := omega) only [↓ZD, ZU, ne_eq, Zaa, Zab, false_implies, Zac, Zad, Zae, Zaf, Zag, Zah, Zai, Zaj, Zak, Zal, Zam, Zan, Zao, Zap, Zaq, Zar, Zas, Zat, Zau, Zav, Zaw, Zax, Zay, Zaz, Za0, Za1, Za2, Za3, Za4, Za5, Za6, Za7, Za8, Za9, Zba, Zbb, Zbc, Zbd, Zbe, Zbf, Zbg, Zbh, Zbi, Zbj, Zbk, Zbl, Zbm, Zbn, Zbo, Zbp, Zbq, Zbr, Zbs, Zbt, Zbu, Zbv, Zbw, Zbx, Zby, Zbz, Zb0, Zb1, Zb2, decide_true, decide_false, Zb3, Zb4, Zb5, Zb6, Zb7, Zb8, Zb9, Zca, Zcb, Zcc, Zcd, beq_self_eq_true, cond_true, cond_false, if_false, if_true, reduceIte, reduceCtorEq, not_true_eq_false, not_false_eq_true, true_and, and_true, forall_const, false_and, and_false, implies_true, Zce, Zcf, Zcg, Zch, Zci]; try trivial)) (by (simp only [HLe_nil, HLe_cons]; try (simp (disch := omega) only [↓ZD, ZU, ne_eq, Zaa, Zab, false_implies, Zac, Zad, Zae, Zaf, Zag, Zah, Zai, Zaj, Zak, Zal, Zam, Zan, Zao, Zap, Zaq, Zar, Zas, Zat, Zau, Zav, Zaw, Zax, Zay, Zaz, Za0, Za1, Za2, Za3, Za4, Za5, Za6, Za7, Za8, Za9, Zba, Zbb, Zbc, Zbd, Zbe, Zbf, Zbg, Zbh, Zbi, Zbj, Zbk, Zbl, Zbm, Zbn, Zbo, Zbp, Zbq, Zbr, Zbs, Zbt, Zbu, Zbv, Zbw, Zbx, Zby, Zbz, Zb0, Zb1, Zb2, decide_true, decide_false, Zb3, Zb4, Zb5, Zb6, Zb7, Zb8, Zb9, Zca, Zcb, Zcc, Zcd, beq_self_eq_true, cond_true, cond_false, if_false, if_true, reduceIte, reduceCtorEq, not_true_eq_false, not_false_eq_true, true_and, and_true, forall_const, false_and, and_false, implies_true, Zce, Zcf, Zcg, Zch, Zci])))
    · simp only; omega
    · simp only [List.length_append, List.length_singleton]; omega
    · rw [List.all_append, hall, List.all_cons, hkb]; rfl
  · have hd : decide ((i : Int) < (len : Int)) = false := by simp; omega
    obtain rfl : i = len := by omega
    have hwa := words_ahead (t := s) hall
    rw [hol] at hwa
    rcases ho.out with ⟨h3, h4, rfl, rfl⟩ | ⟨b, cap2, sp, rfl, rfl, hF, hl2, hs', hc2, hcm⟩
    · have : out = [] := List.eq_nil_of_length_eq_zero h4
      subst this
      simp (disch := omega) only [hd, ↓ZD, ZU, ne_eq, Zaa, Zab, false_implies, Zac, Zad, Zae, Zaf, Zag, Zah, Zai, Zaj, Zak, Zal, Zam, Zan, Zao, Zap, Zaq, Zar, Zas, Zat, Zau, Zav, Zaw, Zax, Zay, Zaz, Za0, Za1, Za2, Za3, Za4, Za5, Za6, Za7, Za8, Za9, Zba, Zbb, Zbc, Zbd, Zbe, Zbf, Zbg, Zbh, Zbi, Zbj, Zbk, Zbl, Zbm, Zbn, Zbo, Zbp, Zbq, Zbr, Zbs, Zbt, Zbu, Zbv, Zbw, Zbx, Zby, Zbz, Zb0, Zb1, Zb2, decide_true, decide_false, Zb3, Zb4, Zb5, Zb6, Zb7, Zb8, Zb9, Zca, Zcb, Zcc, Zcd, beq_self_eq_true, cond_true, cond_false, if_false, if_true, reduceIte, reduceCtorEq, not_true_eq_false, not_false_eq_true, true_and, and_true, forall_const, false_and, and_false, implies_true, Zce, Zcf, Zcg, Zch, Zci]
      have hwS : words (47 :: 47 :: 32 :: 120 :: 10 :: s) = shiftW (i + 5) (words s) := by exact hwa
      have hX : (([47, 47, 32, 120, 10] : List UInt8)).length = i + 5 := by first | (simp only [List.length_append, List.length_cons, List.length_nil]; omega) | simp_all
      have hSl : (47 :: 47 :: 32 :: 120 :: 10 :: s).length = i + 5 + s.length := by simp only [List.length_append, List.length_cons, List.length_nil]; omega
      refine CallE.news ((words_does F hg s (by omega)).up le_up) ?_
      intro r1 H1 hp1 hf1 hd1 hn1
      have hin := words_in s
      cases hw : words s with
      | error ea =>
        obtain ⟨e, a⟩ := ea
        rw [hw] at hin hwS
        simp only [inW] at hin
        obtain ⟨rfl, rfl⟩ := hp1.err_of (by omega) hw
        simp (disch := omega) only [Nat.add_zero, ↓ZD, ZU, ne_eq, Zaa, Zab, false_implies, Zac, Zad, Zae, Zaf, Zag, Zah, Zai, Zaj, Zak, Zal, Zam, Zan, Zao, Zap, Zaq, Zar, Zas, Zat, Zau, Zav, Zaw, Zax, Zay, Zaz, Za0, Za1, Za2, Za3, Za4, Za5, Za6, Za7, Za8, Za9, Zba, Zbb, Zbc, Zbd, Zbe, Zbf, Zbg, Zbh, Zbi, Zbj, Zbk, Zbl, Zbm, Zbn, Zbo, Zbp, Zbq, Zbr, Zbs, Zbt, Zbu, Zbv, Zbw, Zbx, Zby, Zbz, Zb0, Zb1, Zb2, decide_true, decide_false, Zb3, Zb4, Zb5, Zb6, Zb7, Zb8, Zb9, Zca, Zcb, Zcc, Zcd, beq_self_eq_true, cond_true, cond_false, if_false, if_true, reduceIte, reduceCtorEq, not_true_eq_false, not_false_eq_true, true_and, and_true, forall_const, false_and, and_false, implies_true, Zce, Zcf, Zcg, Zch, Zci]
        refine conj.of (by omega) ?_
        simp (disch := omega) only [Nat.add_zero, ↓ZD, ZU, ne_eq, Zaa, Zab, false_implies, Zac, Zad, Zae, Zaf, Zag, Zah, Zai, Zaj, Zak, Zal, Zam, Zan, Zao, Zap, Zaq, Zar, Zas, Zat, Zau, Zav, Zaw, Zax, Zay, Zaz, Za0, Za1, Za2, Za3, Za4, Za5, Za6, Za7, Za8, Za9, Zba, Zbb, Zbc, Zbd, Zbe, Zbf, Zbg, Zbh, Zbi, Zbj, Zbk, Zbl, Zbm, Zbn, Zbo, Zbp, Zbq, Zbr, Zbs, Zbt, Zbu, Zbv, Zbw, Zbx, Zby, Zbz, Zb0, Zb1, Zb2, decide_true, decide_false, Zb3, Zb4, Zb5, Zb6, Zb7, Zb8, Zb9, Zca, Zcb, Zcc, Zcd, beq_self_eq_true, cond_true, cond_false, if_false, if_true, reduceIte, reduceCtorEq, not_true_eq_false, not_false_eq_true, true_and, and_true, forall_const, false_and, and_false, implies_true, Zce, Zcf, Zcg, Zch, Zci]
        refine CallE.news ((words_does F hg _ (by omega)).up le_up) ?_
        intro r2 H2 hp2 hf2 hd2 hn2
        obtain ⟨rfl, rfl⟩ := hp2.err_of (by omega) hwS
        simp (disch := omega) only [Nat.add_zero, bne_self_eq_false, eq_self, ↓ZD, ZU, ne_eq, Zaa, Zab, false_implies, Zac, Zad, Zae, Zaf, Zag, Zah, Zai, Zaj, Zak, Zal, Zam, Zan, Zao, Zap, Zaq, Zar, Zas, Zat, Zau, Zav, Zaw, Zax, Zay, Zaz, Za0, Za1, Za2, Za3, Za4, Za5, Za6, Za7, Za8, Za9, Zba, Zbb, Zbc, Zbd, Zbe, Zbf, Zbg, Zbh, Zbi, Zbj, Zbk, Zbl, Zbm, Zbn, Zbo, Zbp, Zbq, Zbr, Zbs, Zbt, Zbu, Zbv, Zbw, Zbx, Zby, Zbz, Zb0, Zb1, Zb2, decide_true, decide_false, Zb3, Zb4, Zb5, Zb6, Zb7, Zb8, Zb9, Zca, Zcb, Zcc, Zcd, beq_self_eq_true, cond_true, cond_false, if_false, if_true, reduceIte, reduceCtorEq, not_true_eq_false, not_false_eq_true, true_and, and_true, forall_const, false_and, and_false, implies_true, Zce, Zcf, Zcg, Zch, Zci]
        refine ⟨fun _ => ?_, fun h => absurd (by simpa using h) hin.1⟩
        have : (((a + (i + 5) : Nat) : Int) == (a : Int) + ((([47, 47, 32, 120, 10] : List UInt8)).length : Nat)) = true := by rw [hX, beq_iff_eq]; omega
        rw [hX] at this
        first | (rw [← this]; simp only [Value.bool.injEq]; congr 1; omega) | skip
      | ok l =>
        rw [hw] at hin hwS
        simp only [inW] at hin
        have hlne := words_ne hw
        obtain ⟨v1, ho1, rfl⟩ := hp1.ok_of (by omega) hw
        rcases ho1.out with ⟨-, h, -⟩ | ⟨b1, cap1, sp1, rfl, rfl, hF1, -, -, hc1, hm1⟩
        · exact absurd h hlne
        simp (disch := omega) only [Nat.add_zero, hF1, ↓ZD, ZU, ne_eq, Zaa, Zab, false_implies, Zac, Zad, Zae, Zaf, Zag, Zah, Zai, Zaj, Zak, Zal, Zam, Zan, Zao, Zap, Zaq, Zar, Zas, Zat, Zau, Zav, Zaw, Zax, Zay, Zaz, Za0, Za1, Za2, Za3, Za4, Za5, Za6, Za7, Za8, Za9, Zba, Zbb, Zbc, Zbd, Zbe, Zbf, Zbg, Zbh, Zbi, Zbj, Zbk, Zbl, Zbm, Zbn, Zbo, Zbp, Zbq, Zbr, Zbs, Zbt, Zbu, Zbv, Zbw, Zbx, Zby, Zbz, Zb0, Zb1, Zb2, decide_true, decide_false, Zb3, Zb4, Zb5, Zb6, Zb7, Zb8, Zb9, Zca, Zcb, Zcc, Zcd, beq_self_eq_true, cond_true, cond_false, if_false, if_true, reduceIte, reduceCtorEq, not_true_eq_false, not_false_eq_true, true_and, and_true, forall_const, false_and, and_false, implies_true, Zce, Zcf, Zcg, Zch, Zci]
        refine conj.of (by omega) ?_
        simp (disch := omega) only [Nat.add_zero, hF1, ↓ZD, ZU, ne_eq, Zaa, Zab, false_implies, Zac, Zad, Zae, Zaf, Zag, Zah, Zai, Zaj, Zak, Zal, Zam, Zan, Zao, Zap, Zaq, Zar, Zas, Zat, Zau, Zav, Zaw, Zax, Zay, Zaz, Za0, Za1, Za2, Za3, Za4, Za5, Za6, Za7, Za8, Za9, Zba, Zbb, Zbc, Zbd, Zbe, Zbf, Zbg, Zbh, Zbi, Zbj, Zbk, Zbl, Zbm, Zbn, Zbo, Zbp, Zbq, Zbr, Zbs, Zbt, Zbu, Zbv, Zbw, Zbx, Zby, Zbz, Zb0, Zb1, Zb2, decide_true, decide_false, Zb3, Zb4, Zb5, Zb6, Zb7, Zb8, Zb9, Zca, Zcb, Zcc, Zcd, beq_self_eq_true, cond_true, cond_false, if_false, if_true, reduceIte, reduceCtorEq, not_true_eq_false, not_false_eq_true, true_and, and_true, forall_const, false_and, and_false, implies_true, Zce, Zcf, Zcg, Zch, Zci]
        refine CallE.news ((words_does F hg _ (by omega)).up le_up) ?_
        intro r2 H2 hp2 hf2 hd2 hn2
        obtain ⟨v2, ho2, rfl⟩ := hp2.ok_of (by omega) hwS
        have hml : (l.map fun x => (x.1, x.2 + (i + 5))).length = l.length := List.length_map _
        rcases ho2.out with ⟨-, h, -⟩ | ⟨b2, cap2, sp2, rfl, rfl, hF2, -, -, hc2, hm2⟩
        · exact absurd (h.symm.trans hml).symm hlne
        simp (disch := omega) only [Nat.add_zero, hF1, hF2, hml, bne_self_eq_false, eq_self, ↓ZD, ZU, ne_eq, Zaa, Zab, false_implies, Zac, Zad, Zae, Zaf, Zag, Zah, Zai, Zaj, Zak, Zal, Zam, Zan, Zao, Zap, Zaq, Zar, Zas, Zat, Zau, Zav, Zaw, Zax, Zay, Zaz, Za0, Za1, Za2, Za3, Za4, Za5, Za6, Za7, Za8, Za9, Zba, Zbb, Zbc, Zbd, Zbe, Zbf, Zbg, Zbh, Zbi, Zbj, Zbk, Zbl, Zbm, Zbn, Zbo, Zbp, Zbq, Zbr, Zbs, Zbt, Zbu, Zbv, Zbw, Zbx, Zby, Zbz, Zb0, Zb1, Zb2, decide_true, decide_false, Zb3, Zb4, Zb5, Zb6, Zb7, Zb8, Zb9, Zca, Zcb, Zcc, Zcd, beq_self_eq_true, cond_true, cond_false, if_false, if_true, reduceIte, reduceCtorEq, not_true_eq_false, not_false_eq_true, true_and, and_true, forall_const, false_and, and_false, implies_true, Zce, Zcf, Zcg, Zch, Zci]
        have hne : b2 ≠ b1 := hd2 _ (List.mem_singleton.2 rfl) _ (List.mem_singleton.2 rfl)
        skip
        refine LoopL.inv (fun (j : Nat) => j ≤ l.length) (fun j => [(8, some (.string (bs (([47, 47, 32, 120, 10] : List UInt8))))), (9, some (.slice (some ⟨b1, 0, none⟩) l.length cap1)), (12, some (.slice (some ⟨b2, 0, none⟩) l.length cap2)), (15, some (.int .i64 j))]) (fun j => [(b1, .cells (cellsW l ++ sp1).toArray 34 (0, 0)), (b2, .cells (cellsW (l.map fun x => (x.1, x.2 + (i + 5))) ++ sp2).toArray 34 (0, 0))]) (fun j => l.length - j) (0) (Nat.zero_le _) (by (simp only [Le_nil, Le_cons]; simp (disch := omega) only [↓ZD, ZU, ne_eq, Zaa, Zab, false_implies, Zac, Zad, Zae, Zaf, Zag, Zah, Zai, Zaj, Zak, Zal, Zam, Zan, Zao, Zap, Zaq, Zar, Zas, Zat, Zau, Zav, Zaw, Zax, Zay, Zaz, Za0, Za1, Za2, Za3, Za4, Za5, Za6, Za7, Za8, Za9, Zba, Zbb, Zbc, Zbd, Zbe, Zbf, Zbg, Zbh, Zbi, Zbj, Zbk, Zbl, Zbm, Zbn, Zbo, Zbp, Zbq, Zbr, Zbs, Zbt, Zbu, Zbv, Zbw, Zbx, Zby, Zbz, Zb0, Zb1, Zb2, decide_true, decide_false, Zb3, Zb4, Zb5, Zb6, Zb7, Zb8, Zb9, Zca, Zcb, Zcc, Zcd, beq_self_eq_true, cond_true, cond_false, if_false, if_true, reduceIte, reduceCtorEq, not_true_eq_false, not_false_eq_true, true_and, and_true, forall_const, false_and, and_false, implies_true, Zce, Zcf, Zcg, Zch, Zci]; try trivial)) (by (simp only [HLe_nil, HLe_cons]; try (simp (disch := omega) only [↓ZD, ZU, ne_eq, Zaa, Zab, false_implies, Zac, Zad, Zae, Zaf, Zag, Zah, Zai, Zaj, Zak, Zal, Zam, Zan, Zao, Zap, Zaq, Zar, Zas, Zat, Zau, Zav, Zaw, Zax, Zay, Zaz, Za0, Za1, Za2, Za3, Za4, Za5, Za6, Za7, Za8, Za9, Zba, Zbb, Zbc, Zbd, Zbe, Zbf, Zbg, Zbh, Zbi, Zbj, Zbk, Zbl, Zbm, Zbn, Zbo, Zbp, Zbq, Zbr, Zbs, Zbt, Zbu, Zbv, Zbw, Zbx, Zby, Zbz, Zb0, Zb1, Zb2, decide_true, decide_false, Zb3, Zb4, Zb5, Zb6, Zb7, Zb8, Zb9, Zca, Zcb, Zcc, Zcd, beq_self_eq_true, cond_true, cond_false, if_false, if_true, reduceIte, reduceCtorEq, not_true_eq_false, not_false_eq_true, true_and, and_true, forall_const, false_and, and_false, implies_true, Zce, Zcf, Zcg, Zch, Zci]))) ?_
        rintro j hj
        by_cases hjt : j < l.length
        · have hdi : decide ((j : Int) < (l.length : Int)) = true := by simp; omega
          have hlc := cellsW_len l
          have hlc2 := cellsW_len (l.map fun x => (x.1, x.2 + (i + 5)))
          rw [hml] at hlc2
          have hq : (l.getD j ((0, [], 0), 0)).2 ≤ s.length := hin _ (getD_mem hjt)
          have hgm : (l.map fun x => (x.1, x.2 + (i + 5))).getD j ((0, [], 0), 0 + (i + 5)) = ((l.getD j ((0, [], 0), 0)).1, (l.getD j ((0, [], 0), 0)).2 + (i + 5)) := by
            rw [List.getD_eq_getElem?_getD, List.getD_eq_getElem?_getD, List.getElem?_map, List.getElem?_eq_getElem hjt]; rfl
          have hjt2 : j < (l.map fun x => (x.1, x.2 + (i + 5))).length := by omega
          have d0 := fun sp => cellsW_at (sp := sp) (k := 0) (d := ((0, [], 0), 0)) hjt
          have d1 := fun sp => cellsW_at (sp := sp) (k := 1) (d := ((0, [], 0), 0)) hjt
          have d2 := fun sp => cellsW_at (sp := sp) (k := 2) (d := ((0, [], 0), 0)) hjt
          have d3 := fun sp => cellsW_at (sp := sp) (k := 3) (d := ((0, [], 0), 0)) hjt
          have q0 := fun sp => cellsW_at (sp := sp) (k := 0) (d := ((0, [], 0), 0 + (i + 5))) hjt2
          have q1 := fun sp => cellsW_at (sp := sp) (k := 1) (d := ((0, [], 0), 0 + (i + 5))) hjt2
          have q2 := fun sp => cellsW_at (sp := sp) (k := 2) (d := ((0, [], 0), 0 + (i + 5))) hjt2
          have q3 := fun sp => cellsW_at (sp := sp) (k := 3) (d := ((0, [], 0), 0 + (i + 5))) hjt2
          rw [hgm] at q0 q1 q2 q3
          simp only [Nat.add_zero] at d0 q0
          unfold wdV at d0 d1 d2 d3 q0 q1 q2 q3
          have e0 : ∀ sp : List Value, j * 4 + 1 ≤ l.length * 4 + sp.length := fun sp => by omega
          have e1 : ∀ sp : List Value, j * 4 + 1 + 1 ≤ l.length * 4 + sp.length := fun sp => by omega
          have e2' : ∀ sp : List Value, j * 4 + 2 + 1 ≤ l.length * 4 + sp.length := fun sp => by omega
          have e3 : ∀ sp : List Value, j * 4 + 3 + 1 ≤ l.length * 4 + sp.length := fun sp => by omega
          revert d0 d1 d2 d3 q0 q1 q2 q3 hq
          generalize l.getD j ((0, [], 0), 0) = q
          intro hq d0 d1 d2 d3 q0 q1 q2 q3
          simp (disch := omega) only [hdi, hF1, hF2, Int.toNat_natCast, hml, hlc, hlc2, d0, d1, d2, d3, q0, q1, q2, q3, e0, e1, e2', e3, bne_self_eq_false, eq_self, ↓ZD, ZU, ne_eq, Zaa, Zab, false_implies, Zac, Zad, Zae, Zaf, Zag, Zah, Zai, Zaj, Zak, Zal, Zam, Zan, Zao, Zap, Zaq, Zar, Zas, Zat, Zau, Zav, Zaw, Zax, Zay, Zaz, Za0, Za1, Za2, Za3, Za4, Za5, Za6, Za7, Za8, Za9, Zba, Zbb, Zbc, Zbd, Zbe, Zbf, Zbg, Zbh, Zbi, Zbj, Zbk, Zbl, Zbm, Zbn, Zbo, Zbp, Zbq, Zbr, Zbs, Zbt, Zbu, Zbv, Zbw, Zbx, Zby, Zbz, Zb0, Zb1, Zb2, decide_true, decide_false, Zb3, Zb4, Zb5, Zb6, Zb7, Zb8, Zb9, Zca, Zcb, Zcc, Zcd, beq_self_eq_true, cond_true, cond_false, if_false, if_true, reduceIte, reduceCtorEq, not_true_eq_false, not_false_eq_true, true_and, and_true, forall_const, false_and, and_false, implies_true, Zce, Zcf, Zcg, Zch, Zci]
          refine conj.of (by first | omega | (intro _; omega)) ?_
          simp (disch := omega) only [hdi, hF1, hF2, Int.toNat_natCast, hml, hlc, hlc2, d0, d1, d2, d3, q0, q1, q2, q3, e0, e1, e2', e3, bne_self_eq_false, eq_self, ↓ZD, ZU, ne_eq, Zaa, Zab, false_implies, Zac, Zad, Zae, Zaf, Zag, Zah, Zai, Zaj, Zak, Zal, Zam, Zan, Zao, Zap, Zaq, Zar, Zas, Zat, Zau, Zav, Zaw, Zax, Zay, Zaz, Za0, Za1, Za2, Za3, Za4, Za5, Za6, Za7, Za8, Za9, Zba, Zbb, Zbc, Zbd, Zbe, Zbf, Zbg, Zbh, Zbi, Zbj, Zbk, Zbl, Zbm, Zbn, Zbo, Zbp, Zbq, Zbr, Zbs, Zbt, Zbu, Zbv, Zbw, Zbx, Zby, Zbz, Zb0, Zb1, Zb2, decide_true, decide_false, Zb3, Zb4, Zb5, Zb6, Zb7, Zb8, Zb9, Zca, Zcb, Zcc, Zcd, beq_self_eq_true, cond_true, cond_false, if_false, if_true, reduceIte, reduceCtorEq, not_true_eq_false, not_false_eq_true, true_and, and_true, forall_const, false_and, and_false, implies_true, Zce, Zcf, Zcg, Zch, Zci]
          refine conj.of (by first | omega | (intro _; omega)) ?_
          simp (disch := omega) only [hdi, hF1, hF2, Int.toNat_natCast, hml, hlc, hlc2, d0, d1, d2, d3, q0, q1, q2, q3, e0, e1, e2', e3, bne_self_eq_false, eq_self, ↓ZD, ZU, ne_eq, Zaa, Zab, false_implies, Zac, Zad, Zae, Zaf, Zag, Zah, Zai, Zaj, Zak, Zal, Zam, Zan, Zao, Zap, Zaq, Zar, Zas, Zat, Zau, Zav, Zaw, Zax, Zay, Zaz, Za0, Za1, Za2, Za3, Za4, Za5, Za6, Za7, Za8, Za9, Zba, Zbb, Zbc, Zbd, Zbe, Zbf, Zbg, Zbh, Zbi, Zbj, Zbk, Zbl, Zbm, Zbn, Zbo, Zbp, Zbq, Zbr, Zbs, Zbt, Zbu, Zbv, Zbw, Zbx, Zby, Zbz, Zb0, Zb1, Zb2, decide_true, decide_false, Zb3, Zb4, Zb5, Zb6, Zb7, Zb8, Zb9, Zca, Zcb, Zcc, Zcd, beq_self_eq_true, cond_true, cond_false, if_false, if_true, reduceIte, reduceCtorEq, not_true_eq_false, not_false_eq_true, true_and, and_true, forall_const, false_and, and_false, implies_true, Zce, Zcf, Zcg, Zch, Zci]
          refine conj.of (by first | omega | (intro _; omega)) ?_
          simp (disch := omega) only [hdi, hF1, hF2, Int.toNat_natCast, hml, hlc, hlc2, d0, d1, d2, d3, q0, q1, q2, q3, e0, e1, e2', e3, bne_self_eq_false, eq_self, ↓ZD, ZU, ne_eq, Zaa, Zab, false_implies, Zac, Zad, Zae, Zaf, Zag, Zah, Zai, Zaj, Zak, Zal, Zam, Zan, Zao, Zap, Zaq, Zar, Zas, Zat, Zau, Zav, Zaw, Zax, Zay, Zaz, Za0, Za1, Za2, Za3, Za4, Za5, Za6, Za7, Za8, Za9, Zba, Zbb, Zbc, Zbd, Zbe, Zbf, Zbg, Zbh, Zbi, Zbj, Zbk, Zbl, Zbm, Zbn, Zbo, Zbp, Zbq, Zbr, Zbs, Zbt, Zbu, Zbv, Zbw, Zbx, Zby, Zbz, Zb0, Zb1, Zb2, decide_true, decide_false, Zb3, Zb4, Zb5, Zb6, Zb7, Zb8, Zb9, Zca, Zcb, Zcc, Zcd, beq_self_eq_true, cond_true, cond_false, if_false, if_true, reduceIte, reduceCtorEq, not_true_eq_false, not_false_eq_true, true_and, and_true, forall_const, false_and, and_false, implies_true, Zce, Zcf, Zcg, Zch, Zci]
          refine conj.of (by first | omega | (intro _; omega)) ?_
          simp (disch := omega) only [hdi, hF1, hF2, Int.toNat_natCast, hml, hlc, hlc2, d0, d1, d2, d3, q0, q1, q2, q3, e0, e1, e2', e3, bne_self_eq_false, eq_self, ↓ZD, ZU, ne_eq, Zaa, Zab, false_implies, Zac, Zad, Zae, Zaf, Zag, Zah, Zai, Zaj, Zak, Zal, Zam, Zan, Zao, Zap, Zaq, Zar, Zas, Zat, Zau, Zav, Zaw, Zax, Zay, Zaz, Za0, Za1, Za2, Za3, Za4, Za5, Za6, Za7, Za8, Za9, Zba, Zbb, Zbc, Zbd, Zbe, Zbf, Zbg, Zbh, Zbi, Zbj, Zbk, Zbl, Zbm, Zbn, Zbo, Zbp, Zbq, Zbr, Zbs, Zbt, Zbu, Zbv, Zbw, Zbx, Zby, Zbz, Zb0, Zb1, Zb2, decide_true, decide_false, Zb3, Zb4, Zb5, Zb6, Zb7, Zb8, Zb9, Zca, Zcb, Zcc, Zcd, beq_self_eq_true, cond_true, cond_false, if_false, if_true, reduceIte, reduceCtorEq, not_true_eq_false, not_false_eq_true, true_and, and_true, forall_const, false_and, and_false, implies_true, Zce, Zcf, Zcg, Zch, Zci]
          refine conj.of (by first | omega | (intro _; omega)) ?_
          simp (disch := omega) only [hdi, hF1, hF2, Int.toNat_natCast, hml, hlc, hlc2, d0, d1, d2, d3, q0, q1, q2, q3, e0, e1, e2', e3, bne_self_eq_false, eq_self, ↓ZD, ZU, ne_eq, Zaa, Zab, false_implies, Zac, Zad, Zae, Zaf, Zag, Zah, Zai, Zaj, Zak, Zal, Zam, Zan, Zao, Zap, Zaq, Zar, Zas, Zat, Zau, Zav, Zaw, Zax, Zay, Zaz, Za0, Za1, Za2, Za3, Za4, Za5, Za6, Za7, Za8, Za9, Zba, Zbb, Zbc, Zbd, Zbe, Zbf, Zbg, Zbh, Zbi, Zbj, Zbk, Zbl, Zbm, Zbn, Zbo, Zbp, Zbq, Zbr, Zbs, Zbt, Zbu, Zbv, Zbw, Zbx, Zby, Zbz, Zb0, Zb1, Zb2, decide_true, decide_false, Zb3, Zb4, Zb5, Zb6, Zb7, Zb8, Zb9, Zca, Zcb, Zcc, Zcd, beq_self_eq_true, cond_true, cond_false, if_false, if_true, reduceIte, reduceCtorEq, not_true_eq_false, not_false_eq_true, true_and, and_true, forall_const, false_and, and_false, implies_true, Zce, Zcf, Zcg, Zch, Zci]
          refine conj.of (by first | omega | (intro _; omega)) ?_
          simp (disch := omega) only [hdi, hF1, hF2, Int.toNat_natCast, hml, hlc, hlc2, d0, d1, d2, d3, q0, q1, q2, q3, e0, e1, e2', e3, bne_self_eq_false, eq_self, ↓ZD, ZU, ne_eq, Zaa, Zab, false_implies, Zac, Zad, Zae, Zaf, Zag, Zah, Zai, Zaj, Zak, Zal, Zam, Zan, Zao, Zap, Zaq, Zar, Zas, Zat, Zau, Zav, Zaw, Zax, Zay, Zaz, Za0, Za1, Za2, Za3, Za4, Za5, Za6, Za7, Za8, Za9, Zba, Zbb, Zbc, Zbd, Zbe, Zbf, Zbg, Zbh, Zbi, Zbj, Zbk, Zbl, Zbm, Zbn, Zbo, Zbp, Zbq, Zbr, Zbs, Zbt, Zbu, Zbv, Zbw, Zbx, Zby, Zbz, Zb0, Zb1, Zb2, decide_true, decide_false, Zb3, Zb4, Zb5, Zb6, Zb7, Zb8, Zb9, Zca, Zcb, Zcc, Zcd, beq_self_eq_true, cond_true, cond_false, if_false, if_true, reduceIte, reduceCtorEq, not_true_eq_false, not_false_eq_true, true_and, and_true, forall_const, false_and, and_false, implies_true, Zce, Zcf, Zcg, Zch, Zci]
          refine conj.of (by first | omega | (intro _; omega)) ?_
          simp (disch := omega) only [hdi, hF1, hF2, Int.toNat_natCast, hml, hlc, hlc2, d0, d1, d2, d3, q0, q1, q2, q3, e0, e1, e2', e3, bne_self_eq_false, eq_self, ↓ZD, ZU, ne_eq, Zaa, Zab, false_implies, Zac, Zad, Zae, Zaf, Zag, Zah, Zai, Zaj, Zak, Zal, Zam, Zan, Zao, Zap, Zaq, Zar, Zas, Zat, Zau, Zav, Zaw, Zax, Zay, Zaz, Za0, Za1, Za2, Za3, Za4, Za5, Za6, Za7, Za8, Za9, Zba, Zbb, Zbc, Zbd, Zbe, Zbf, Zbg, Zbh, Zbi, Zbj, Zbk, Zbl, Zbm, Zbn, Zbo, Zbp, Zbq, Zbr, Zbs, Zbt, Zbu, Zbv, Zbw, Zbx, Zby, Zbz, Zb0, Zb1, Zb2, decide_true, decide_false, Zb3, Zb4, Zb5, Zb6, Zb7, Zb8, Zb9, Zca, Zcb, Zcc, Zcd, beq_self_eq_true, cond_true, cond_false, if_false, if_true, reduceIte, reduceCtorEq, not_true_eq_false, not_false_eq_true, true_and, and_true, forall_const, false_and, and_false, implies_true, Zce, Zcf, Zcg, Zch, Zci]
          refine conj.of (by first | omega | (intro _; omega)) ?_
          simp (disch := omega) only [hdi, hF1, hF2, Int.toNat_natCast, hml, hlc, hlc2, d0, d1, d2, d3, q0, q1, q2, q3, e0, e1, e2', e3, bne_self_eq_false, eq_self, ↓ZD, ZU, ne_eq, Zaa, Zab, false_implies, Zac, Zad, Zae, Zaf, Zag, Zah, Zai, Zaj, Zak, Zal, Zam, Zan, Zao, Zap, Zaq, Zar, Zas, Zat, Zau, Zav, Zaw, Zax, Zay, Zaz, Za0, Za1, Za2, Za3, Za4, Za5, Za6, Za7, Za8, Za9, Zba, Zbb, Zbc, Zbd, Zbe, Zbf, Zbg, Zbh, Zbi, Zbj, Zbk, Zbl, Zbm, Zbn, Zbo, Zbp, Zbq, Zbr, Zbs, Zbt, Zbu, Zbv, Zbw, Zbx, Zby, Zbz, Zb0, Zb1, Zb2, decide_true, decide_false, Zb3, Zb4, Zb5, Zb6, Zb7, Zb8, Zb9, Zca, Zcb, Zcc, Zcd, beq_self_eq_true, cond_true, cond_false, if_false, if_true, reduceIte, reduceCtorEq, not_true_eq_false, not_false_eq_true, true_and, and_true, forall_const, false_and, and_false, implies_true, Zce, Zcf, Zcg, Zch, Zci]
          have hX2 := hX
          simp only [List.length_append, List.length_cons, List.length_nil] at hX2
          refine ⟨fun h => ?_, fun _ => ?_⟩
          · have h2 := bne_iff_ne.mp h
            omega
          · refine invK.on (j + 1) (by omega) (by omega) (by (simp only [Le_nil, Le_cons]; simp (disch := omega) only [hF1, hF2, hne, ↓ZD, ZU, ne_eq, Zaa, Zab, false_implies, Zac, Zad, Zae, Zaf, Zag, Zah, Zai, Zaj, Zak, Zal, Zam, Zan, Zao, Zap, Zaq, Zar, Zas, Zat, Zau, Zav, Zaw, Zax, Zay, Zaz, Za0, Za1, Za2, Za3, Za4, Za5, Za6, Za7, Za8, Za9, Zba, Zbb, Zbc, Zbd, Zbe, Zbf, Zbg, Zbh, Zbi, Zbj, Zbk, Zbl, Zbm, Zbn, Zbo, Zbp, Zbq, Zbr, Zbs, Zbt, Zbu, Zbv, Zbw, Zbx, Zby, Zbz, Zb0, Zb1, Zb2, decide_true, decide_false, Zb3, Zb4, Zb5, Zb6, Zb7, Zb8, Zb9, Zca, Zcb, Zcc, Zcd, beq_self_eq_true, cond_true, cond_false, if_false, if_true, reduceIte, reduceCtorEq, not_true_eq_false, not_false_eq_true, true_and, and_true, forall_const, false_and, and_false, implies_true, Zce, Zcf, Zcg, Zch, Zci]; try trivial)) (by (simp only [HLe_nil, HLe_cons]; try (simp (disch := omega) only [hF1, hF2, hne, ↓ZD, ZU, ne_eq, Zaa, Zab, false_implies, Zac, Zad, Zae, Zaf, Zag, Zah, Zai, Zaj, Zak, Zal, Zam, Zan, Zao, Zap, Zaq, Zar, Zas, Zat, Zau, Zav, Zaw, Zax, Zay, Zaz, Za0, Za1, Za2, Za3, Za4, Za5, Za6, Za7, Za8, Za9, Zba, Zbb, Zbc, Zbd, Zbe, Zbf, Zbg, Zbh, Zbi, Zbj, Zbk, Zbl, Zbm, Zbn, Zbo, Zbp, Zbq, Zbr, Zbs, Zbt, Zbu, Zbv, Zbw, Zbx, Zby, Zbz, Zb0, Zb1, Zb2, decide_true, decide_false, Zb3, Zb4, Zb5, Zb6, Zb7, Zb8, Zb9, Zca, Zcb, Zcc, Zcd, beq_self_eq_true, cond_true, cond_false, if_false, if_true, reduceIte, reduceCtorEq, not_true_eq_false, not_false_eq_true, true_and, and_true, forall_const, false_and, and_false, implies_true, Zce, Zcf, Zcg, Zch, Zci])))
        · have hdi : decide ((j : Int) < (l.length : Int)) = false := by simp; omega
          simp (disch := omega) only [hdi, ↓ZD, ZU, ne_eq, Zaa, Zab, false_implies, Zac, Zad, Zae, Zaf, Zag, Zah, Zai, Zaj, Zak, Zal, Zam, Zan, Zao, Zap, Zaq, Zar, Zas, Zat, Zau, Zav, Zaw, Zax, Zay, Zaz, Za0, Za1, Za2, Za3, Za4, Za5, Za6, Za7, Za8, Za9, Zba, Zbb, Zbc, Zbd, Zbe, Zbf, Zbg, Zbh, Zbi, Zbj, Zbk, Zbl, Zbm, Zbn, Zbo, Zbp, Zbq, Zbr, Zbs, Zbt, Zbu, Zbv, Zbw, Zbx, Zby, Zbz, Zb0, Zb1, Zb2, decide_true, decide_false, Zb3, Zb4, Zb5, Zb6, Zb7, Zb8, Zb9, Zca, Zcb, Zcc, Zcd, beq_self_eq_true, cond_true, cond_false, if_false, if_true, reduceIte, reduceCtorEq, not_true_eq_false, not_false_eq_true, true_and, and_true, forall_const, false_and, and_false, implies_true, Zce, Zcf, Zcg, Zch, Zci]
    · have e2 : (byteCells out).length = out.length := byteCells_len out
      simp (disch := omega) only [hd, hF, e2, ↓ZD, ZU, ne_eq, Zaa, Zab, false_implies, Zac, Zad, Zae, Zaf, Zag, Zah, Zai, Zaj, Zak, Zal, Zam, Zan, Zao, Zap, Zaq, Zar, Zas, Zat, Zau, Zav, Zaw, Zax, Zay, Zaz, Za0, Za1, Za2, Za3, Za4, Za5, Za6, Za7, Za8, Za9, Zba, Zbb, Zbc, Zbd, Zbe, Zbf, Zbg, Zbh, Zbi, Zbj, Zbk, Zbl, Zbm, Zbn, Zbo, Zbp, Zbq, Zbr, Zbs, Zbt, Zbu, Zbv, Zbw, Zbx, Zby, Zbz, Zb0, Zb1, Zb2, decide_true, decide_false, Zb3, Zb4, Zb5, Zb6, Zb7, Zb8, Zb9, Zca, Zcb, Zcc, Zcd, beq_self_eq_true, cond_true, cond_false, if_false, if_true, reduceIte, reduceCtorEq, not_true_eq_false, not_false_eq_true, true_and, and_true, forall_const, false_and, and_false, implies_true, Zce, Zcf, Zcg, Zch, Zci]
      refine conj.of (by omega) ?_
      simp (disch := omega) only [hF, e2, ↓ZD, ZU, ne_eq, Zaa, Zab, false_implies, Zac, Zad, Zae, Zaf, Zag, Zah, Zai, Zaj, Zak, Zal, Zam, Zan, Zao, Zap, Zaq, Zar, Zas, Zat, Zau, Zav, Zaw, Zax, Zay, Zaz, Za0, Za1, Za2, Za3, Za4, Za5, Za6, Za7, Za8, Za9, Zba, Zbb, Zbc, Zbd, Zbe, Zbf, Zbg, Zbh, Zbi, Zbj, Zbk, Zbl, Zbm, Zbn, Zbo, Zbp, Zbq, Zbr, Zbs, Zbt, Zbu, Zbv, Zbw, Zbx, Zby, Zbz, Zb0, Zb1, Zb2, decide_true, decide_false, Zb3, Zb4, Zb5, Zb6, Zb7, Zb8, Zb9, Zca, Zcb, Zcc, Zcd, beq_self_eq_true, cond_true, cond_false, if_false, if_true, reduceIte, reduceCtorEq, not_true_eq_false, not_false_eq_true, true_and, and_true, forall_const, false_and, and_false, implies_true, Zce, Zcf, Zcg, Zch, Zci]
      have hwS : words (out ++ [47, 47, 32, 120, 10] ++ s) = shiftW (i + 5) (words s) := by rw [← hwa]; simp
      have hX : (out ++ [47, 47, 32, 120, 10]).length = i + 5 := by first | (simp only [List.length_append, List.length_cons, List.length_nil]; omega) | simp_all
      have hSl : (out ++ [47, 47, 32, 120, 10] ++ s).length = i + 5 + s.length := by simp only [List.length_append, List.length_cons, List.length_nil]; omega
      refine CallE.news ((words_does F hg s (by omega)).up le_up) ?_
      intro r1 H1 hp1 hf1 hd1 hn1
      have hin := words_in s
      cases hw : words s with
      | error ea =>
        obtain ⟨e, a⟩ := ea
        rw [hw] at hin hwS
        simp only [inW] at hin
        obtain ⟨rfl, rfl⟩ := hp1.err_of (by omega) hw
        simp (disch := omega) only [hF, e2, ↓ZD, ZU, ne_eq, Zaa, Zab, false_implies, Zac, Zad, Zae, Zaf, Zag, Zah, Zai, Zaj, Zak, Zal, Zam, Zan, Zao, Zap, Zaq, Zar, Zas, Zat, Zau, Zav, Zaw, Zax, Zay, Zaz, Za0, Za1, Za2, Za3, Za4, Za5, Za6, Za7, Za8, Za9, Zba, Zbb, Zbc, Zbd, Zbe, Zbf, Zbg, Zbh, Zbi, Zbj, Zbk, Zbl, Zbm, Zbn, Zbo, Zbp, Zbq, Zbr, Zbs, Zbt, Zbu, Zbv, Zbw, Zbx, Zby, Zbz, Zb0, Zb1, Zb2, decide_true, decide_false, Zb3, Zb4, Zb5, Zb6, Zb7, Zb8, Zb9, Zca, Zcb, Zcc, Zcd, beq_self_eq_true, cond_true, cond_false, if_false, if_true, reduceIte, reduceCtorEq, not_true_eq_false, not_false_eq_true, true_and, and_true, forall_const, false_and, and_false, implies_true, Zce, Zcf, Zcg, Zch, Zci]
        refine conj.of (by omega) ?_
        simp (disch := omega) only [hF, e2, ↓ZD, ZU, ne_eq, Zaa, Zab, false_implies, Zac, Zad, Zae, Zaf, Zag, Zah, Zai, Zaj, Zak, Zal, Zam, Zan, Zao, Zap, Zaq, Zar, Zas, Zat, Zau, Zav, Zaw, Zax, Zay, Zaz, Za0, Za1, Za2, Za3, Za4, Za5, Za6, Za7, Za8, Za9, Zba, Zbb, Zbc, Zbd, Zbe, Zbf, Zbg, Zbh, Zbi, Zbj, Zbk, Zbl, Zbm, Zbn, Zbo, Zbp, Zbq, Zbr, Zbs, Zbt, Zbu, Zbv, Zbw, Zbx, Zby, Zbz, Zb0, Zb1, Zb2, decide_true, decide_false, Zb3, Zb4, Zb5, Zb6, Zb7, Zb8, Zb9, Zca, Zcb, Zcc, Zcd, beq_self_eq_true, cond_true, cond_false, if_false, if_true, reduceIte, reduceCtorEq, not_true_eq_false, not_false_eq_true, true_and, and_true, forall_const, false_and, and_false, implies_true, Zce, Zcf, Zcg, Zch, Zci]
        refine CallE.news ((words_does F hg _ (by omega)).up le_up) ?_
        intro r2 H2 hp2 hf2 hd2 hn2
        obtain ⟨rfl, rfl⟩ := hp2.err_of (by omega) hwS
        simp (disch := omega) only [hF, e2, bne_self_eq_false, eq_self, ↓ZD, ZU, ne_eq, Zaa, Zab, false_implies, Zac, Zad, Zae, Zaf, Zag, Zah, Zai, Zaj, Zak, Zal, Zam, Zan, Zao, Zap, Zaq, Zar, Zas, Zat, Zau, Zav, Zaw, Zax, Zay, Zaz, Za0, Za1, Za2, Za3, Za4, Za5, Za6, Za7, Za8, Za9, Zba, Zbb, Zbc, Zbd, Zbe, Zbf, Zbg, Zbh, Zbi, Zbj, Zbk, Zbl, Zbm, Zbn, Zbo, Zbp, Zbq, Zbr, Zbs, Zbt, Zbu, Zbv, Zbw, Zbx, Zby, Zbz, Zb0, Zb1, Zb2, decide_true, decide_false, Zb3, Zb4, Zb5, Zb6, Zb7, Zb8, Zb9, Zca, Zcb, Zcc, Zcd, beq_self_eq_true, cond_true, cond_false, if_false, if_true, reduceIte, reduceCtorEq, not_true_eq_false, not_false_eq_true, true_and, and_true, forall_const, false_and, and_false, implies_true, Zce, Zcf, Zcg, Zch, Zci]
        refine ⟨fun _ => ?_, fun h => absurd (by simpa using h) hin.1⟩
        have : (((a + (i + 5) : Nat) : Int) == (a : Int) + ((out ++ [47, 47, 32, 120, 10]).length : Nat)) = true := by rw [hX, beq_iff_eq]; omega
        rw [hX] at this
        first | (rw [← this]; simp only [Value.bool.injEq]; congr 1; omega) | skip
      | ok l =>
        rw [hw] at hin hwS
        simp only [inW] at hin
        have hlne := words_ne hw
        obtain ⟨v1, ho1, rfl⟩ := hp1.ok_of (by omega) hw
        rcases ho1.out with ⟨-, h, -⟩ | ⟨b1, cap1, sp1, rfl, rfl, hF1, -, -, hc1, hm1⟩
        · exact absurd h hlne
        simp (disch := omega) only [hF, e2, hF1, ↓ZD, ZU, ne_eq, Zaa, Zab, false_implies, Zac, Zad, Zae, Zaf, Zag, Zah, Zai, Zaj, Zak, Zal, Zam, Zan, Zao, Zap, Zaq, Zar, Zas, Zat, Zau, Zav, Zaw, Zax, Zay, Zaz, Za0, Za1, Za2, Za3, Za4, Za5, Za6, Za7, Za8, Za9, Zba, Zbb, Zbc, Zbd, Zbe, Zbf, Zbg, Zbh, Zbi, Zbj, Zbk, Zbl, Zbm, Zbn, Zbo, Zbp, Zbq, Zbr, Zbs, Zbt, Zbu, Zbv, Zbw, Zbx, Zby, Zbz, Zb0, Zb1, Zb2, decide_true, decide_false, Zb3, Zb4, Zb5, Zb6, Zb7, Zb8, Zb9, Zca, Zcb, Zcc, Zcd, beq_self_eq_true, cond_true, cond_false, if_false, if_true, reduceIte, reduceCtorEq, not_true_eq_false, not_false_eq_true, true_and, and_true, forall_const, false_and, and_false, implies_true, Zce, Zcf, Zcg, Zch, Zci]
        refine conj.of (by omega) ?_
        simp (disch := omega) only [hF, e2, hF1, ↓ZD, ZU, ne_eq, Zaa, Zab, false_implies, Zac, Zad, Zae, Zaf, Zag, Zah, Zai, Zaj, Zak, Zal, Zam, Zan, Zao, Zap, Zaq, Zar, Zas, Zat, Zau, Zav, Zaw, Zax, Zay, Zaz, Za0, Za1, Za2, Za3, Za4, Za5, Za6, Za7, Za8, Za9, Zba, Zbb, Zbc, Zbd, Zbe, Zbf, Zbg, Zbh, Zbi, Zbj, Zbk, Zbl, Zbm, Zbn, Zbo, Zbp, Zbq, Zbr, Zbs, Zbt, Zbu, Zbv, Zbw, Zbx, Zby, Zbz, Zb0, Zb1, Zb2, decide_true, decide_false, Zb3, Zb4, Zb5, Zb6, Zb7, Zb8, Zb9, Zca, Zcb, Zcc, Zcd, beq_self_eq_true, cond_true, cond_false, if_false, if_true, reduceIte, reduceCtorEq, not_true_eq_false, not_false_eq_true, true_and, and_true, forall_const, false_and, and_false, implies_true, Zce, Zcf, Zcg, Zch, Zci]
        refine CallE.news ((words_does F hg _ (by omega)).up le_up) ?_
        intro r2 H2 hp2 hf2 hd2 hn2
        obtain ⟨v2, ho2, rfl⟩ := hp2.ok_of (by omega) hwS
        have hml : (l.map fun x => (x.1, x.2 + (i + 5))).length = l.length := List.length_map _
        rcases ho2.out with ⟨-, h, -⟩ | ⟨b2, cap2, sp2, rfl, rfl, hF2, -, -, hc2, hm2⟩
        · exact absurd (h.symm.trans hml).symm hlne
        simp (disch := omega) only [hF, e2, hF1, hF2, hml, bne_self_eq_false, eq_self, ↓ZD, ZU, ne_eq, Zaa, Zab, false_implies, Zac, Zad, Zae, Zaf, Zag, Zah, Zai, Zaj, Zak, Zal, Zam, Zan, Zao, Zap, Zaq, Zar, Zas, Zat, Zau, Zav, Zaw, Zax, Zay, Zaz, Za0, Za1, Za2, Za3, Za4, Za5, Za6, Za7, Za8, Za9, Zba, Zbb, Zbc, Zbd, Zbe, Zbf, Zbg, Zbh, Zbi, Zbj, Zbk, Zbl, Zbm, Zbn, Zbo, Zbp, Zbq, Zbr, Zbs, Zbt, Zbu, Zbv, Zbw, Zbx, Zby, Zbz, Zb0, Zb1, Zb2, decide_true, decide_false, Zb3, Zb4, Zb5, Zb6, Zb7, Zb8, Zb9, Zca, Zcb, Zcc, Zcd, beq_self_eq_true, cond_true, cond_false, if_false, if_true, reduceIte, reduceCtorEq, not_true_eq_false, not_false_eq_true, true_and, and_true, forall_const, false_and, and_false, implies_true, Zce, Zcf, Zcg, Zch, Zci]
        have hne : b2 ≠ b1 := hd2 _ (List.mem_cons_of_mem _ (List.mem_singleton.2 rfl)) _ (List.mem_singleton.2 rfl)
        have hnb := hd1 _ (List.mem_singleton.2 rfl) _ (List.mem_singleton.2 rfl); have hnb2 := hd2 _ List.mem_cons_self _ (List.mem_singleton.2 rfl); simp only at hnb hnb2
        refine LoopL.inv (fun (j : Nat) => j ≤ l.length) (fun j => [(8, some (.string (bs (out ++ [47, 47, 32, 120, 10])))), (9, some (.slice (some ⟨b1, 0, none⟩) l.length cap1)), (12, some (.slice (some ⟨b2, 0, none⟩) l.length cap2)), (15, some (.int .i64 j))]) (fun j => [(b1, .cells (cellsW l ++ sp1).toArray 34 (0, 0)), (b2, .cells (cellsW (l.map fun x => (x.1, x.2 + (i + 5))) ++ sp2).toArray 34 (0, 0))]) (fun j => l.length - j) (0) (Nat.zero_le _) (by (simp only [Le_nil, Le_cons]; simp (disch := omega) only [↓ZD, ZU, ne_eq, Zaa, Zab, false_implies, Zac, Zad, Zae, Zaf, Zag, Zah, Zai, Zaj, Zak, Zal, Zam, Zan, Zao, Zap, Zaq, Zar, Zas, Zat, Zau, Zav, Zaw, Zax, Zay, Zaz, Za0, Za1, Za2, Za3, Za4, Za5, Za6, Za7, Za8, Za9, Zba, Zbb, Zbc, Zbd, Zbe, Zbf, Zbg, Zbh, Zbi, Zbj, Zbk, Zbl, Zbm, Zbn, Zbo, Zbp, Zbq, Zbr, Zbs, Zbt, Zbu, Zbv, Zbw, Zbx, Zby, Zbz, Zb0, Zb1, Zb2, decide_true, decide_false, Zb3, Zb4, Zb5, Zb6, Zb7, Zb8, Zb9, Zca, Zcb, Zcc, Zcd, beq_self_eq_true, cond_true, cond_false, if_false, if_true, reduceIte, reduceCtorEq, not_true_eq_false, not_false_eq_true, true_and, and_true, forall_const, false_and, and_false, implies_true, Zce, Zcf, Zcg, Zch, Zci]; try trivial)) (by (simp only [HLe_nil, HLe_cons]; try (simp (disch := omega) only [↓ZD, ZU, ne_eq, Zaa, Zab, false_implies, Zac, Zad, Zae, Zaf, Zag, Zah, Zai, Zaj, Zak, Zal, Zam, Zan, Zao, Zap, Zaq, Zar, Zas, Zat, Zau, Zav, Zaw, Zax, Zay, Zaz, Za0, Za1, Za2, Za3, Za4, Za5, Za6, Za7, Za8, Za9, Zba, Zbb, Zbc, Zbd, Zbe, Zbf, Zbg, Zbh, Zbi, Zbj, Zbk, Zbl, Zbm, Zbn, Zbo, Zbp, Zbq, Zbr, Zbs, Zbt, Zbu, Zbv, Zbw, Zbx, Zby, Zbz, Zb0, Zb1, Zb2, decide_true, decide_false, Zb3, Zb4, Zb5, Zb6, Zb7, Zb8, Zb9, Zca, Zcb, Zcc, Zcd, beq_self_eq_true, cond_true, cond_false, if_false, if_true, reduceIte, reduceCtorEq, not_true_eq_false, not_false_eq_true, true_and, and_true, forall_const, false_and, and_false, implies_true, Zce, Zcf, Zcg, Zch, Zci]))) ?_
        rintro j hj
        by_cases hjt : j < l.length
        · have hdi : decide ((j : Int) < (l.length : Int)) = true := by simp; omega
          have hlc := cellsW_len l
          have hlc2 := cellsW_len (l.map fun x => (x.1, x.2 + (i + 5)))
          rw [hml] at hlc2
          have hq : (l.getD j ((0, [], 0), 0)).2 ≤ s.length := hin _ (getD_mem hjt)
          have hgm : (l.map fun x => (x.1, x.2 + (i + 5))).getD j ((0, [], 0), 0 + (i + 5)) = ((l.getD j ((0, [], 0), 0)).1, (l.getD j ((0, [], 0), 0)).2 + (i + 5)) := by
            rw [List.getD_eq_getElem?_getD, List.getD_eq_getElem?_getD, List.getElem?_map, List.getElem?_eq_getElem hjt]; rfl
          have hjt2 : j < (l.map fun x => (x.1, x.2 + (i + 5))).length := by omega
          have d0 := fun sp => cellsW_at (sp := sp) (k := 0) (d := ((0, [], 0), 0)) hjt
          have d1 := fun sp => cellsW_at (sp := sp) (k := 1) (d := ((0, [], 0), 0)) hjt
          have d2 := fun sp => cellsW_at (sp := sp) (k := 2) (d := ((0, [], 0), 0)) hjt
          have d3 := fun sp => cellsW_at (sp := sp) (k := 3) (d := ((0, [], 0), 0)) hjt
          have q0 := fun sp => cellsW_at (sp := sp) (k := 0) (d := ((0, [], 0), 0 + (i + 5))) hjt2
          have q1 := fun sp => cellsW_at (sp := sp) (k := 1) (d := ((0, [], 0), 0 + (i + 5))) hjt2
          have q2 := fun sp => cellsW_at (sp := sp) (k := 2) (d := ((0, [], 0), 0 + (i + 5))) hjt2
          have q3 := fun sp => cellsW_at (sp := sp) (k := 3) (d := ((0, [], 0), 0 + (i + 5))) hjt2
          rw [hgm] at q0 q1 q2 q3
          simp only [Nat.add_zero] at d0 q0
          unfold wdV at d0 d1 d2 d3 q0 q1 q2 q3
          have e0 : ∀ sp : List Value, j * 4 + 1 ≤ l.length * 4 + sp.length := fun sp => by omega
          have e1 : ∀ sp : List Value, j * 4 + 1 + 1 ≤ l.length * 4 + sp.length := fun sp => by omega
          have e2' : ∀ sp : List Value, j * 4 + 2 + 1 ≤ l.length * 4 + sp.length := fun sp => by omega
          have e3 : ∀ sp : List Value, j * 4 + 3 + 1 ≤ l.length * 4 + sp.length := fun sp => by omega
          revert d0 d1 d2 d3 q0 q1 q2 q3 hq
          generalize l.getD j ((0, [], 0), 0) = q
          intro hq d0 d1 d2 d3 q0 q1 q2 q3
          simp (disch := omega) only [hdi, hF1, hF2, Int.toNat_natCast, hml, hlc, hlc2, d0, d1, d2, d3, q0, q1, q2, q3, e0, e1, e2', e3, bne_self_eq_false, eq_self, ↓ZD, ZU, ne_eq, Zaa, Zab, false_implies, Zac, Zad, Zae, Zaf, Zag, Zah, Zai, Zaj, Zak, Zal, Zam, Zan, Zao, Zap, Zaq, Zar, Zas, Zat, Zau, Zav, Zaw, Zax, Zay, Zaz, Za0, Za1, Za2, Za3, Za4, Za5, Za6, Za7, Za8, Za9, Zba, Zbb, Zbc, Zbd, Zbe, Zbf, Zbg, Zbh, Zbi, Zbj, Zbk, Zbl, Zbm, Zbn, Zbo, Zbp, Zbq, Zbr, Zbs, Zbt, Zbu, Zbv, Zbw, Zbx, Zby, Zbz, Zb0, Zb1, Zb2, decide_true, decide_false, Zb3, Zb4, Zb5, Zb6, Zb7, Zb8, Zb9, Zca, Zcb, Zcc, Zcd, beq_self_eq_true, cond_true, cond_false, if_false, if_true, reduceIte, reduceCtorEq, not_true_eq_false, not_false_eq_true, true_and, and_true, forall_const, false_and, and_false, implies_true, Zce, Zcf, Zcg, Zch, Zci]
          refine conj.of (by first | omega | (intro _; omega)) ?_
          simp (disch := omega) only [hdi, hF1, hF2, Int.toNat_natCast, hml, hlc, hlc2, d0, d1, d2, d3, q0, q1, q2, q3, e0, e1, e2', e3, bne_self_eq_false, eq_self, ↓ZD, ZU, ne_eq, Zaa, Zab, false_implies, Zac, Zad, Zae, Zaf, Zag, Zah, Zai, Zaj, Zak, Zal, Zam, Zan, Zao, Zap, Zaq, Zar, Zas, Zat, Zau, Zav, Zaw, Zax, Zay, Zaz, Za0, Za1, Za2, Za3, Za4, Za5, Za6, Za7, Za8, Za9, Zba, Zbb, Zbc, Zbd, Zbe, Zbf, Zbg, Zbh, Zbi, Zbj, Zbk, Zbl, Zbm, Zbn, Zbo, Zbp, Zbq, Zbr, Zbs, Zbt, Zbu, Zbv, Zbw, Zbx, Zby, Zbz, Zb0, Zb1, Zb2, decide_true, decide_false, Zb3, Zb4, Zb5, Zb6, Zb7, Zb8, Zb9, Zca, Zcb, Zcc, Zcd, beq_self_eq_true, cond_true, cond_false, if_false, if_true, reduceIte, reduceCtorEq, not_true_eq_false, not_false_eq_true, true_and, and_true, forall_const, false_and, and_false, implies_true, Zce, Zcf, Zcg, Zch, Zci]
          refine conj.of (by first | omega | (intro _; omega)) ?_
          simp (disch := omega) only [hdi, hF1, hF2, Int.toNat_natCast, hml, hlc, hlc2, d0, d1, d2, d3, q0, q1, q2, q3, e0, e1, e2', e3, bne_self_eq_false, eq_self, ↓ZD, ZU, ne_eq, Zaa, Zab, false_implies, Zac, Zad, Zae, Zaf, Zag, Zah, Zai, Zaj, Zak, Zal, Zam, Zan, Zao, Zap, Zaq, Zar, Zas, Zat, Zau, Zav, Zaw, Zax, Zay, Zaz, Za0, Za1, Za2, Za3, Za4, Za5, Za6, Za7, Za8, Za9, Zba, Zbb, Zbc, Zbd, Zbe, Zbf, Zbg, Zbh, Zbi, Zbj, Zbk, Zbl, Zbm, Zbn, Zbo, Zbp, Zbq, Zbr, Zbs, Zbt, Zbu, Zbv, Zbw, Zbx, Zby, Zbz, Zb0, Zb1, Zb2, decide_true, decide_false, Zb3, Zb4, Zb5, Zb6, Zb7, Zb8, Zb9, Zca, Zcb, Zcc, Zcd, beq_self_eq_true, cond_true, cond_false, if_false, if_true, reduceIte, reduceCtorEq, not_true_eq_false, not_false_eq_true, true_and, and_true, forall_const, false_and, and_false, implies_true, Zce, Zcf, Zcg, Zch, Zci]
          refine conj.of (by first | omega | (intro _; omega)) ?_
          simp (disch := omega) only [hdi, hF1, hF2, Int.toNat_natCast, hml, hlc, hlc2, d0, d1, d2, d3, q0, q1, q2, q3, e0, e1, e2', e3, bne_self_eq_false, eq_self, ↓ZD, ZU, ne_eq, Zaa, Zab, false_implies, Zac, Zad, Zae, Zaf, Zag, Zah, Zai, Zaj, Zak, Zal, Zam, Zan, Zao, Zap, Zaq, Zar, Zas, Zat, Zau, Zav, Zaw, Zax, Zay, Zaz, Za0, Za1, Za2, Za3, Za4, Za5, Za6, Za7, Za8, Za9, Zba, Zbb, Zbc, Zbd, Zbe, Zbf, Zbg, Zbh, Zbi, Zbj, Zbk, Zbl, Zbm, Zbn, Zbo, Zbp, Zbq, Zbr, Zbs, Zbt, Zbu, Zbv, Zbw, Zbx, Zby, Zbz, Zb0, Zb1, Zb2, decide_true, decide_false, Zb3, Zb4, Zb5, Zb6, Zb7, Zb8, Zb9, Zca, Zcb, Zcc, Zcd, beq_self_eq_true, cond_true, cond_false, if_false, if_true, reduceIte, reduceCtorEq, not_true_eq_false, not_false_eq_true, true_and, and_true, forall_const, false_and, and_false, implies_true, Zce, Zcf, Zcg, Zch, Zci]
          refine conj.of (by first | omega | (intro _; omega)) ?_
          simp (disch := omega) only [hdi, hF1, hF2, Int.toNat_natCast, hml, hlc, hlc2, d0, d1, d2, d3, q0, q1, q2, q3, e0, e1, e2', e3, bne_self_eq_false, eq_self, ↓ZD, ZU, ne_eq, Zaa, Zab, false_implies, Zac, Zad, Zae, Zaf, Zag, Zah, Zai, Zaj, Zak, Zal, Zam, Zan, Zao, Zap, Zaq, Zar, Zas, Zat, Zau, Zav, Zaw, Zax, Zay, Zaz, Za0, Za1, Za2, Za3, Za4, Za5, Za6, Za7, Za8, Za9, Zba, Zbb, Zbc, Zbd, Zbe, Zbf, Zbg, Zbh, Zbi, Zbj, Zbk, Zbl, Zbm, Zbn, Zbo, Zbp, Zbq, Zbr, Zbs, Zbt, Zbu, Zbv, Zbw, Zbx, Zby, Zbz, Zb0, Zb1, Zb2, decide_true, decide_false, Zb3, Zb4, Zb5, Zb6, Zb7, Zb8, Zb9, Zca, Zcb, Zcc, Zcd, beq_self_eq_true, cond_true, cond_false, if_false, if_true, reduceIte, reduceCtorEq, not_true_eq_false, not_false_eq_true, true_and, and_true, forall_const, false_and, and_false, implies_true, Zce, Zcf, Zcg, Zch, Zci]
          refine conj.of (by first | omega | (intro _; omega)) ?_
          simp (disch := omega) only [hdi, hF1, hF2, Int.toNat_natCast, hml, hlc, hlc2, d0, d1, d2, d3, q0, q1, q2, q3, e0, e1, e2', e3, bne_self_eq_false, eq_self, ↓ZD, ZU, ne_eq, Zaa, Zab, false_implies, Zac, Zad, Zae, Zaf, Zag, Zah, Zai, Zaj, Zak, Zal, Zam, Zan, Zao, Zap, Zaq, Zar, Zas, Zat, Zau, Zav, Zaw, Zax, Zay, Zaz, Za0, Za1, Za2, Za3, Za4, Za5, Za6, Za7, Za8, Za9, Zba, Zbb, Zbc, Zbd, Zbe, Zbf, Zbg, Zbh, Zbi, Zbj, Zbk, Zbl, Zbm, Zbn, Zbo, Zbp, Zbq, Zbr, Zbs, Zbt, Zbu, Zbv, Zbw, Zbx, Zby, Zbz, Zb0, Zb1, Zb2, decide_true, decide_false, Zb3, Zb4, Zb5, Zb6, Zb7, Zb8, Zb9, Zca, Zcb, Zcc, Zcd, beq_self_eq_true, cond_true, cond_false, if_false, if_true, reduceIte, reduceCtorEq, not_true_eq_false, not_false_eq_true, true_and, and_true, forall_const, false_and, and_false, implies_true, Zce, Zcf, Zcg, Zch, Zci]
          refine conj.of (by first | omega | (intro _; omega)) ?_
          simp (disch := omega) only [hdi, hF1, hF2, Int.toNat_natCast, hml, hlc, hlc2, d0, d1, d2, d3, q0, q1, q2, q3, e0, e1, e2', e3, bne_self_eq_false, eq_self, ↓ZD, ZU, ne_eq, Zaa, Zab, false_implies, Zac, Zad, Zae, Zaf, Zag, Zah, Zai, Zaj, Zak, Zal, Zam, Zan, Zao, Zap, Zaq, Zar, Zas, Zat, Zau, Zav, Zaw, Zax, Zay, Zaz, Za0, Za1, Za2, Za3, Za4, Za5, Za6, Za7, Za8, Za9, Zba, Zbb, Zbc, Zbd, Zbe, Zbf, Zbg, Zbh, Zbi, Zbj, Zbk, Zbl, Zbm, Zbn, Zbo, Zbp, Zbq, Zbr, Zbs, Zbt, Zbu, Zbv, Zbw, Zbx, Zby, Zbz, Zb0, Zb1, Zb2, decide_true, decide_false, Zb3, Zb4, Zb5, Zb6, Zb7, Zb8, Zb9, Zca, Zcb, Zcc, Zcd, beq_self_eq_true, cond_true, cond_false, if_false, if_true, reduceIte, reduceCtorEq, not_true_eq_false, not_false_eq_true, true_and, and_true, forall_const, false_and, and_false, implies_true, Zce, Zcf, Zcg, Zch, Zci]
          refine conj.of (by first | omega | (intro _; omega)) ?_
          simp (disch := omega) only [hdi, hF1, hF2, Int.toNat_natCast, hml, hlc, hlc2, d0, d1, d2, d3, q0, q1, q2, q3, e0, e1, e2', e3, bne_self_eq_false, eq_self, ↓ZD, ZU, ne_eq, Zaa, Zab, false_implies, Zac, Zad, Zae, Zaf, Zag, Zah, Zai, Zaj, Zak, Zal, Zam, Zan, Zao, Zap, Zaq, Zar, Zas, Zat, Zau, Zav, Zaw, Zax, Zay, Zaz, Za0, Za1, Za2, Za3, Za4, Za5, Za6, Za7, Za8, Za9, Zba, Zbb, Zbc, Zbd, Zbe, Zbf, Zbg, Zbh, Zbi, Zbj, Zbk, Zbl, Zbm, Zbn, Zbo, Zbp, Zbq, Zbr, Zbs, Zbt, Zbu, Zbv, Zbw, Zbx, Zby, Zbz, Zb0, Zb1, Zb2, decide_true, decide_false, Zb3, Zb4, Zb5, Zb6, Zb7, Zb8, Zb9, Zca, Zcb, Zcc, Zcd, beq_self_eq_true, cond_true, cond_false, if_false, if_true, reduceIte, reduceCtorEq, not_true_eq_false, not_false_eq_true, true_and, and_true, forall_const, false_and, and_false, implies_true, Zce, Zcf, Zcg, Zch, Zci]
          refine conj.of (by first | omega | (intro _; omega)) ?_
          simp (disch := omega) only [hdi, hF1, hF2, Int.toNat_natCast, hml, hlc, hlc2, d0, d1, d2, d3, q0, q1, q2, q3, e0, e1, e2', e3, bne_self_eq_false, eq_self, ↓ZD, ZU, ne_eq, Zaa, Zab, false_implies, Zac, Zad, Zae, Zaf, Zag, Zah, Zai, Zaj, Zak, Zal, Zam, Zan, Zao, Zap, Zaq, Zar, Zas, Zat, Zau, Zav, Zaw, Zax, Zay, Zaz, Za0, Za1, Za2, Za3, Za4, Za5, Za6, Za7, Za8, Za9, Zba, Zbb, Zbc, Zbd, Zbe, Zbf, Zbg, Zbh, Zbi, Zbj, Zbk, Zbl, Zbm, Zbn, Zbo, Zbp, Zbq, Zbr, Zbs, Zbt, Zbu, Zbv, Zbw, Zbx, Zby, Zbz, Zb0, Zb1, Zb2, decide_true, decide_false, Zb3, Zb4, Zb5, Zb6, Zb7, Zb8, Zb9, Zca, Zcb, Zcc, Zcd, beq_self_eq_true, cond_true, cond_false, if_false, if_true, reduceIte, reduceCtorEq, not_true_eq_false, not_false_eq_true, true_and, and_true, forall_const, false_and, and_false, implies_true, Zce, Zcf, Zcg, Zch, Zci]
          have hX2 := hX
          simp only [List.length_append, List.length_cons, List.length_nil] at hX2
          refine ⟨fun h => ?_, fun _ => ?_⟩
          · have h2 := bne_iff_ne.mp h
            omega
          · refine invK.on (j + 1) (by omega) (by omega) (by (simp only [Le_nil, Le_cons]; simp (disch := omega) only [hF1, hF2, hne, ↓ZD, ZU, ne_eq, Zaa, Zab, false_implies, Zac, Zad, Zae, Zaf, Zag, Zah, Zai, Zaj, Zak, Zal, Zam, Zan, Zao, Zap, Zaq, Zar, Zas, Zat, Zau, Zav, Zaw, Zax, Zay, Zaz, Za0, Za1, Za2, Za3, Za4, Za5, Za6, Za7, Za8, Za9, Zba, Zbb, Zbc, Zbd, Zbe, Zbf, Zbg, Zbh, Zbi, Zbj, Zbk, Zbl, Zbm, Zbn, Zbo, Zbp, Zbq, Zbr, Zbs, Zbt, Zbu, Zbv, Zbw, Zbx, Zby, Zbz, Zb0, Zb1, Zb2, decide_true, decide_false, Zb3, Zb4, Zb5, Zb6, Zb7, Zb8, Zb9, Zca, Zcb, Zcc, Zcd, beq_self_eq_true, cond_true, cond_false, if_false, if_true, reduceIte, reduceCtorEq, not_true_eq_false, not_false_eq_true, true_and, and_true, forall_const, false_and, and_false, implies_true, Zce, Zcf, Zcg, Zch, Zci]; try trivial)) (by (simp only [HLe_nil, HLe_cons]; try (simp (disch := omega) only [hF1, hF2, hne, ↓ZD, ZU, ne_eq, Zaa, Zab, false_implies, Zac, Zad, Zae, Zaf, Zag, Zah, Zai, Zaj, Zak, Zal, Zam, Zan, Zao, Zap, Zaq, Zar, Zas, Zat, Zau, Zav, Zaw, Zax, Zay, Zaz, Za0, Za1, Za2, Za3, Za4, Za5, Za6, Za7, Za8, Za9, Zba, Zbb, Zbc, Zbd, Zbe, Zbf, Zbg, Zbh, Zbi, Zbj, Zbk, Zbl, Zbm, Zbn, Zbo, Zbp, Zbq, Zbr, Zbs, Zbt, Zbu, Zbv, Zbw, Zbx, Zby, Zbz, Zb0, Zb1, Zb2, decide_true, decide_false, Zb3, Zb4, Zb5, Zb6, Zb7, Zb8, Zb9, Zca, Zcb, Zcc, Zcd, beq_self_eq_true, cond_true, cond_false, if_false, if_true, reduceIte, reduceCtorEq, not_true_eq_false, not_false_eq_true, true_and, and_true, forall_const, false_and, and_false, implies_true, Zce, Zcf, Zcg, Zch, Zci])))
        · have hdi : decide ((j : Int) < (l.length : Int)) = false := by simp; omega
          simp (disch := omega) only [hdi, ↓ZD, ZU, ne_eq, Zaa, Zab, false_implies, Zac, Zad, Zae, Zaf, Zag, Zah, Zai, Zaj, Zak, Zal, Zam, Zan, Zao, Zap, Zaq, Zar, Zas, Zat, Zau, Zav, Zaw, Zax, Zay, Zaz, Za0, Za1, Za2, Za3, Za4, Za5, Za6, Za7, Za8, Za9, Zba, Zbb, Zbc, Zbd, Zbe, Zbf, Zbg, Zbh, Zbi, Zbj, Zbk, Zbl, Zbm, Zbn, Zbo, Zbp, Zbq, Zbr, Zbs, Zbt, Zbu, Zbv, Zbw, Zbx, Zby, Zbz, Zb0, Zb1, Zb2, decide_true, decide_false, Zb3, Zb4, Zb5, Zb6, Zb7, Zb8, Zb9, Zca, Zcb, Zcc, Zcd, beq_self_eq_true, cond_true, cond_false, if_false, if_true, reduceIte, reduceCtorEq, not_true_eq_false, not_false_eq_true, true_and, and_true, forall_const, false_and, and_false, implies_true, Zce, Zcf, Zcg, Zch, Zci]
theorem EfL.mkOne {F : Base} {H : Hp} {B T : Nat} {z : Value} {l c : Int} {K : Value → Hp → Prop} (h : 0 ≤ l ∧ l ≤ c ∧ c * B ≤ 281474976710656 ∧ c ≤ 9223372036854775807)
    (hk : ∀ b, (∀ e ∈ H, e.1 ≠ b) → F b = none → K (.slice (some ⟨b, 0, none⟩) l.toNat c.toNat) ((b, .cells (List.replicate c.toNat z).toArray T (0, 0)) :: H)) : @EfL F H (.mkSl 1 B T [z]) [.int .i64 l, .int .i64 c] ⟨K⟩ := by
  refine EfL.of ?_
  show mkSlP F H 1 B T [z] (.int .i64 l) (.int .i64 c) (shrK K)
  unfold mkSlP
  refine ⟨h, fun b h1 h2 => ?_⟩
  have e : ((List.range (c.toNat * 1)).map fun i => ([z] : List Value)[i % ([z] : List Value).length]!) = List.replicate c.toNat z := by
    rw [Nat.mul_one, List.eq_replicate_iff]
    refine ⟨by simp, fun x hx => ?_⟩
    obtain ⟨i, -, rfl⟩ := List.mem_map.1 hx
    rw [List.length_singleton, Nat.mod_one]; rfl
  rw [e]
  exact ⟨_, fun _ h => h, hk b h1 h2⟩
end Go.Proofs.YtndnpmlhofijjaaDoor
