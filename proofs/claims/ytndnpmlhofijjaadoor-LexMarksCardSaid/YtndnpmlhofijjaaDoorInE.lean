/- Layer 1: the number of digits, of the program and of the reference. -/
import Derived.Test.YtndnpmlhofijjaaDoorInA
import Derived.Test.YtndnpmlhofijjaaDoorShelf
namespace Go.Proofs.YtndnpmlhofijjaaDoor
open Go Go.Eng
open Int renaming reduceEq → Zaa, cast_ofNat_Int → Zac, reduceToNat → Zbu, toNat_zero → Zbv, toNat_one → Zbw, reduceLE → Zbx, reduceLT → Zby, reduceAdd → Zbz, reduceSub → Zb0, reduceNeg → Zb1, zero_add → Zb2, reducePow → Zcg, reduceNegSucc → Zci
open UInt8 renaming reduceOfNat → Zab
open List renaming toList_toArray → Zad, length_append → Zag, cons_append → Zav, nil_append → Zaw, length_cons → Zax, length_nil → Zay, drop_zero → Zaz, drop_succ_cons → Za0, take_succ_cons → Za1, take_zero → Za2, drop_nil → Za3, take_nil → Za4, append_nil → Za5, all_cons → Za6, all_nil → Za7, isEmpty_cons → Za8, size_toArray → Za9, getElem?_toArray → Zba, getElem?_cons_zero → Zbb, getElem?_cons_succ → Zbc, getD_cons_zero → Zbd, getD_cons_succ → Zbe, mapM_cons → Zbf, mapM_nil → Zbg
open Option renaming getD_some → Zae, getD_none → Zaf, map_some → Zar, map_none → Zas, bind_some → Zat, bind_none → Zau
open Nat renaming le_add_right → Zah, reduceAdd → Zbi, reduceMul → Zbj, reduceMod → Zbk, reduceDiv → Zbl, reduceEqDiff → Zbm, reduceBEq → Zbn, reduceLeDiff → Zbo, reduceSub → Zbp, zero_add → Zbq, add_zero → Zbr, le_refl → Zbs, zero_le → Zbt, reducePow → Zcf, reduceLT → Zch
open Go.Eng renaming subG → Zai, lit → Zaj, isPar → Zak, numb → Zal, Wf → Zam, resV → Zan, oneCell → Zao, isB → Zap, asB → Zaq
open Go.Value renaming cells → Zbh
open Bool renaming and_true → Zb3, true_and → Zb4, and_self → Zb5, not_true → Zb6, not_false → Zb7, and_false → Zb8, or_false → Zb9, or_true → Zca, true_or → Zcb, false_or → Zcc, false_and → Zcd, false_eq_true → Zce
set_option linter.unusedSimpArgs false
set_option linter.unusedVariables false
set_option maxRecDepth 20000

def nvalFrom (n : Nat) (l : List UInt8) : Nat := l.foldl (fun n c => n * 10 + (c.toNat - 48)) n
def nval (l : List UInt8) : Nat := nvalFrom 0 l
/-- The number of the digits l, behind a minus or not. -/
def readD (m : Bool) (l : List UInt8) : Int × Int :=
  if l = [] ∨ (l.getD 0 0 = 48 ∧ (1 < l.length ∨ m = true)) ∨ l.all isD = false then (0, 10) else fitR (if m then -(nval l : Int) else nval l)
def readR : List UInt8 → Int × Int
  | 45 :: l => readD true l
  | l => readD false l
theorem nvalFrom_app (n : Nat) (l : List UInt8) (c : UInt8) : nvalFrom n (l ++ [c]) = nvalFrom n l * 10 + (c.toNat - 48) := by simp [nvalFrom]
theorem nvalFrom_le (n : Nat) (l : List UInt8) : n ≤ nvalFrom n l := by
  unfold nvalFrom
  induction l generalizing n with
  | nil => exact Nat.le_refl _
  | cons c l ih => exact Nat.le_trans (by show n ≤ n * 10 + _; omega) (ih _)
theorem nval_take (l : List UInt8) (i : Nat) : nval (l.take i) ≤ nval l := by
  have e : nval l = nvalFrom (nval (l.take i)) (l.drop i) := by
    unfold nval nvalFrom; rw [← List.foldl_append, List.take_append_drop]
  rw [e]; exact nvalFrom_le _ _
theorem nval_succ (l : List UInt8) (i : Nat) (h : i < l.length) : nval (l.take (i + 1)) = nval (l.take i) * 10 + ((l.getD i 0).toNat - 48) := by
  unfold nval
  rw [List.take_add_one, List.getElem?_eq_getElem h, Option.toList_some, nvalFrom_app, List.getD_eq_getElem?_getD, List.getElem?_eq_getElem h]; rfl

theorem cut_pure (F : Base) (m : Bool) (l : List UInt8) (h : m = false → l.head? ≠ some 45) : PureV Tryd.prog F 36 #[.string (bs (if m then 45 :: l else l)), .string (bs [45])] (.tuple #[.string (bs l), .bool m]) := by
  refine PureV.of_same fun w => (Tryd.strings_CutPrefix _ _ w).mono fun e w' h' => ?_
  obtain ⟨he, hw⟩ := h'
  refine ⟨?_, hw⟩
  rw [he]
  cases m with
  | true => rfl
  | false =>
    have h0 := h rfl
    have hp : Lib.hasPrefix l [45] = false := by
      cases l with
      | nil => rfl
      | cons c l =>
        simp only [List.head?_cons, ne_eq, Option.some.injEq] at h0
        simp only [Lib.hasPrefix, List.isPrefixOf]
        simp; exact fun h => h0 h.symm
    simp only [Lib.trimPrefix, Bool.false_eq_true, if_false, bs_list, hp]
    rfl
theorem add64 (F : Base) (H : Hp) (a b : Int) (ha : 0 ≤ a) (ha' : a < 18446744073709551616) (hb : 0 ≤ b) (hb' : b < 18446744073709551616) : semq Tryd.prog F H (callFunc 38 #[.int .u64 a, .int .u64 b, .int .u64 0]) (fun n => n = .value (.tuple #[.int .u64 ((a + b) % 18446744073709551616), .int .u64 ((a + b) / 18446744073709551616)])) := by
  refine semq_row Tryd.func38 (by decide) rfl (by rfl) (by rfl) (row := fun args => do
    let (x, y, c) ← Extern.MathBitsCarry.three "Add64" args
    pure (Extern.MathBitsCarry.pair ((x + y + c) % Extern.MathBitsCarry.m64) ((x + y + c) / Extern.MathBitsCarry.m64))) ?_
  show Extern.MathBitsCarry.pair ((a.toNat + b.toNat + 0) % Extern.MathBitsCarry.m64) ((a.toNat + b.toNat + 0) / Extern.MathBitsCarry.m64) = _
  obtain ⟨X, rfl⟩ := Int.eq_ofNat_of_zero_le ha
  obtain ⟨Y, rfl⟩ := Int.eq_ofNat_of_zero_le hb
  simp only [Extern.MathBitsCarry.pair, Extern.MathBitsCarry.m64, Int.toNat_natCast]
  congr 4 <;> simp <;> omega
/-- What holds at the head of the loop of Read. -/
def readI (l : List UInt8) (x : Nat × Nat × Bool) : Prop :=
  x.1 ≤ l.length ∧ x.2.1 < 18446744073709551616 ∧ (l.take x.1).all isD = true ∧ (if x.2.2 = true then 18446744073709551616 ≤ nval (l.take x.1) else x.2.1 = nval (l.take x.1))
theorem read_pure (F : Base) (m : Bool) (l : List UInt8) (hm : m = false → l.head? ≠ some 45) (hl : l.length ≤ 1000000000) : PureV Tryd.prog F 24 #[.string (bs (if m then 45 :: l else l))] (pr (readD m l)) := by
  refine pureV_of_svc mixed Tryd.func24 low24 (Nat.le_of_ble_eq_true rfl) (fun w0 => ?_)
  simp (disch := omega) only [fu24, ↓ZD, ZU, ne_eq, Zaa, Zab, false_implies, Zac, Zad, Zae, Zaf, Zag, Zah, Zai, Zaj, Zak, Zal, Zam, Zan, Zao, Zap, Zaq, Zar, Zas, Zat, Zau, Zav, Zaw, Zax, Zay, Zaz, Za0, Za1, Za2, Za3, Za4, Za5, Za6, Za7, Za8, Za9, Zba, Zbb, Zbc, Zbd, Zbe, Zbf, Zbg, Zbh, Zbi, Zbj, Zbk, Zbl, Zbm, Zbn, Zbo, Zbp, Zbq, Zbr, Zbs, Zbt, Zbu, Zbv, Zbw, Zbx, Zby, Zbz, Zb0, Zb1, Zb2, decide_true, decide_false, Zb3, Zb4, Zb5, Zb6, Zb7, Zb8, Zb9, Zca, Zcb, Zcc, Zcd, beq_self_eq_true, cond_true, cond_false, if_false, if_true, reduceIte, reduceCtorEq, not_true_eq_false, not_false_eq_true, true_and, and_true, forall_const, false_and, and_false, implies_true, Zce, Zcf, Zcg, Zch, Zci]
  refine CallE.pure (cut_pure F m l hm) ?_
  simp (disch := omega) only [↓ZD, ZU, ne_eq, Zaa, Zab, false_implies, Zac, Zad, Zae, Zaf, Zag, Zah, Zai, Zaj, Zak, Zal, Zam, Zan, Zao, Zap, Zaq, Zar, Zas, Zat, Zau, Zav, Zaw, Zax, Zay, Zaz, Za0, Za1, Za2, Za3, Za4, Za5, Za6, Za7, Za8, Za9, Zba, Zbb, Zbc, Zbd, Zbe, Zbf, Zbg, Zbh, Zbi, Zbj, Zbk, Zbl, Zbm, Zbn, Zbo, Zbp, Zbq, Zbr, Zbs, Zbt, Zbu, Zbv, Zbw, Zbx, Zby, Zbz, Zb0, Zb1, Zb2, decide_true, decide_false, Zb3, Zb4, Zb5, Zb6, Zb7, Zb8, Zb9, Zca, Zcb, Zcc, Zcd, beq_self_eq_true, cond_true, cond_false, if_false, if_true, reduceIte, reduceCtorEq, not_true_eq_false, not_false_eq_true, true_and, and_true, forall_const, false_and, and_false, implies_true, Zce, Zcf, Zcg, Zch, Zci]
  have h0 : ((l == []) = false → (0 : Int) < l.length) := by intro h; cases l <;> simp at h ⊢
  refine conj.of h0 ?_
  simp (disch := omega) only [↓ZD, ZU, ne_eq, Zaa, Zab, false_implies, Zac, Zad, Zae, Zaf, Zag, Zah, Zai, Zaj, Zak, Zal, Zam, Zan, Zao, Zap, Zaq, Zar, Zas, Zat, Zau, Zav, Zaw, Zax, Zay, Zaz, Za0, Za1, Za2, Za3, Za4, Za5, Za6, Za7, Za8, Za9, Zba, Zbb, Zbc, Zbd, Zbe, Zbf, Zbg, Zbh, Zbi, Zbj, Zbk, Zbl, Zbm, Zbn, Zbo, Zbp, Zbq, Zbr, Zbs, Zbt, Zbu, Zbv, Zbw, Zbx, Zby, Zbz, Zb0, Zb1, Zb2, decide_true, decide_false, Zb3, Zb4, Zb5, Zb6, Zb7, Zb8, Zb9, Zca, Zcb, Zcc, Zcd, beq_self_eq_true, cond_true, cond_false, if_false, if_true, reduceIte, reduceCtorEq, not_true_eq_false, not_false_eq_true, true_and, and_true, forall_const, false_and, and_false, implies_true, Zce, Zcf, Zcg, Zch, Zci]
  refine ⟨fun h => ?_, fun h => ?_⟩
  · unfold readD
    rw [if_pos]
    · rfl
    · cases l with
      | nil => exact .inl rfl
      | cons c l => simp at h ⊢; refine .inl ⟨UInt8.toNat_inj.mp (by simp; omega), ?_⟩; cases m <;> simp at h ⊢; omega
  · have hne : l ≠ [] := by rintro rfl; simp at h
    have hform : ¬ (l.getD 0 0 = 48 ∧ (1 < l.length ∨ m = true)) := by
      rintro ⟨h1, h2⟩
      rw [h1] at h
      cases m <;> simp at h h2 <;> omega
    intro k
    refine NewB.of fun b1 hb1 hF1 => ?_
    simp (disch := omega) only [hF1, ↓ZD, ZU, ne_eq, Zaa, Zab, false_implies, Zac, Zad, Zae, Zaf, Zag, Zah, Zai, Zaj, Zak, Zal, Zam, Zan, Zao, Zap, Zaq, Zar, Zas, Zat, Zau, Zav, Zaw, Zax, Zay, Zaz, Za0, Za1, Za2, Za3, Za4, Za5, Za6, Za7, Za8, Za9, Zba, Zbb, Zbc, Zbd, Zbe, Zbf, Zbg, Zbh, Zbi, Zbj, Zbk, Zbl, Zbm, Zbn, Zbo, Zbp, Zbq, Zbr, Zbs, Zbt, Zbu, Zbv, Zbw, Zbx, Zby, Zbz, Zb0, Zb1, Zb2, decide_true, decide_false, Zb3, Zb4, Zb5, Zb6, Zb7, Zb8, Zb9, Zca, Zcb, Zcc, Zcd, beq_self_eq_true, cond_true, cond_false, if_false, if_true, reduceIte, reduceCtorEq, not_true_eq_false, not_false_eq_true, true_and, and_true, forall_const, false_and, and_false, implies_true, Zce, Zcf, Zcg, Zch, Zci]
    refine LoopL.inv (α := Nat × Nat × Bool) (readI l)
      (fun x => [(5, some (.bool m)), (6, some (.int .u64 x.2.1)), (7, some (.bool x.2.2)), (35, some (.slice (some ⟨b1, 0, none⟩) l.length (l.length + k))), (36, some (.int .i64 l.length)), (37, some (.int .i64 x.1))])
      (fun x => [(b1, .cells (byteCells l ++ List.replicate k (Value.int .u8 0)).toArray 5 (l.length + k, l.length + k + 1))])
      (fun x => l.length - x.1) (0, 0, false) ⟨Nat.zero_le _, by decide, rfl, rfl⟩ ?_ ?_ ?_
    · simp only [Le_nil, Le_cons]
      simp (disch := omega) only [↓ZD, ZU, ne_eq, Zaa, Zab, false_implies, Zac, Zad, Zae, Zaf, Zag, Zah, Zai, Zaj, Zak, Zal, Zam, Zan, Zao, Zap, Zaq, Zar, Zas, Zat, Zau, Zav, Zaw, Zax, Zay, Zaz, Za0, Za1, Za2, Za3, Za4, Za5, Za6, Za7, Za8, Za9, Zba, Zbb, Zbc, Zbd, Zbe, Zbf, Zbg, Zbh, Zbi, Zbj, Zbk, Zbl, Zbm, Zbn, Zbo, Zbp, Zbq, Zbr, Zbs, Zbt, Zbu, Zbv, Zbw, Zbx, Zby, Zbz, Zb0, Zb1, Zb2, decide_true, decide_false, Zb3, Zb4, Zb5, Zb6, Zb7, Zb8, Zb9, Zca, Zcb, Zcc, Zcd, beq_self_eq_true, cond_true, cond_false, if_false, if_true, reduceIte, reduceCtorEq, not_true_eq_false, not_false_eq_true, true_and, and_true, forall_const, false_and, and_false, implies_true, Zce, Zcf, Zcg, Zch, Zci]
    · simp only [HLe_nil, HLe_cons]
      simp (disch := omega) only [↓ZD, ZU, ne_eq, Zaa, Zab, false_implies, Zac, Zad, Zae, Zaf, Zag, Zah, Zai, Zaj, Zak, Zal, Zam, Zan, Zao, Zap, Zaq, Zar, Zas, Zat, Zau, Zav, Zaw, Zax, Zay, Zaz, Za0, Za1, Za2, Za3, Za4, Za5, Za6, Za7, Za8, Za9, Zba, Zbb, Zbc, Zbd, Zbe, Zbf, Zbg, Zbh, Zbi, Zbj, Zbk, Zbl, Zbm, Zbn, Zbo, Zbp, Zbq, Zbr, Zbs, Zbt, Zbu, Zbv, Zbw, Zbx, Zby, Zbz, Zb0, Zb1, Zb2, decide_true, decide_false, Zb3, Zb4, Zb5, Zb6, Zb7, Zb8, Zb9, Zca, Zcb, Zcc, Zcd, beq_self_eq_true, cond_true, cond_false, if_false, if_true, reduceIte, reduceCtorEq, not_true_eq_false, not_false_eq_true, true_and, and_true, forall_const, false_and, and_false, implies_true, Zce, Zcf, Zcg, Zch, Zci]
    · rintro ⟨i, n, ov⟩ hI
      obtain ⟨hi, hn, ha, hv⟩ := hI
      simp only at hi hn ha hv ⊢
      by_cases hlt : i < l.length
      · have hd : decide ((i : Int) < (l.length : Int)) = true := by simp; omega
        have hc1 : i + 1 ≤ l.length + k := by omega
        have hld := ld_bytes l (List.replicate k (Value.int .u8 0)) i hlt
        simp (disch := omega) only [hF1, hd, ↓ZD, ZU, ne_eq, Zaa, Zab, false_implies, Zac, Zad, Zae, Zaf, Zag, Zah, Zai, Zaj, Zak, Zal, Zam, Zan, Zao, Zap, Zaq, Zar, Zas, Zat, Zau, Zav, Zaw, Zax, Zay, Zaz, Za0, Za1, Za2, Za3, Za4, Za5, Za6, Za7, Za8, Za9, Zba, Zbb, Zbc, Zbd, Zbe, Zbf, Zbg, Zbh, Zbi, Zbj, Zbk, Zbl, Zbm, Zbn, Zbo, Zbp, Zbq, Zbr, Zbs, Zbt, Zbu, Zbv, Zbw, Zbx, Zby, Zbz, Zb0, Zb1, Zb2, decide_true, decide_false, Zb3, Zb4, Zb5, Zb6, Zb7, Zb8, Zb9, Zca, Zcb, Zcc, Zcd, beq_self_eq_true, cond_true, cond_false, if_false, if_true, reduceIte, reduceCtorEq, not_true_eq_false, not_false_eq_true, true_and, and_true, forall_const, false_and, and_false, implies_true, Zce, Zcf, Zcg, Zch, Zci]
        refine conj.of (by omega) ?_
        simp (disch := omega) only [hF1, hd, hld, hc1, Nat.mul_one, Int.toNat_natCast, List.length_append, List.length_replicate, ↓ZD, ZU, ne_eq, Zaa, Zab, false_implies, Zac, Zad, Zae, Zaf, Zag, Zah, Zai, Zaj, Zak, Zal, Zam, Zan, Zao, Zap, Zaq, Zar, Zas, Zat, Zau, Zav, Zaw, Zax, Zay, Zaz, Za0, Za1, Za2, Za3, Za4, Za5, Za6, Za7, Za8, Za9, Zba, Zbb, Zbc, Zbd, Zbe, Zbf, Zbg, Zbh, Zbi, Zbj, Zbk, Zbl, Zbm, Zbn, Zbo, Zbp, Zbq, Zbr, Zbs, Zbt, Zbu, Zbv, Zbw, Zbx, Zby, Zbz, Zb0, Zb1, Zb2, decide_true, decide_false, Zb3, Zb4, Zb5, Zb6, Zb7, Zb8, Zb9, Zca, Zcb, Zcc, Zcd, beq_self_eq_true, cond_true, cond_false, if_false, if_true, reduceIte, reduceCtorEq, not_true_eq_false, not_false_eq_true, true_and, and_true, forall_const, false_and, and_false, implies_true, Zce, Zcf, Zcg, Zch, Zci]
        have hm : PureV Tryd.prog F 37 #[.int .u64 n, .int .u64 10] (.tuple #[.int .u64 ((n : Int) * 10 / 18446744073709551616), .int .u64 ((n : Int) * 10 % 18446744073709551616)]) := 
          PureV.of_same fun w => (Tryd.bits_Mul64 n 10 (by omega) (by omega) w).mono fun e w' h => h
        refine ⟨fun hb => ?_, fun hb => ?_⟩
        · unfold readD
          rw [if_pos]
          · rfl
          · refine .inr (.inr ?_)
            rw [List.all_eq_false]
            refine ⟨l.getD i 0, ?_, ?_⟩
            · rw [List.getD_eq_getElem?_getD, List.getElem?_eq_getElem hlt]; exact List.getElem_mem hlt
            · unfold isD; simp at hb ⊢; omega
        · refine CallE.pure hm ?_
          have hc : 48 ≤ (l.getD i 0).toNat ∧ (l.getD i 0).toNat ≤ 57 := by simp at hb ⊢; omega
          have hw : IntKind.u64.wrap (IntKind.u8.wrap (((l.getD i 0).toNat : Int) - 48)) = (((l.getD i 0).toNat - 48 : Nat) : Int) := by
            rw [wrap_u64, wrap_u8]; omega
          simp (disch := omega) only [hw, ↓ZD, ZU, ne_eq, Zaa, Zab, false_implies, Zac, Zad, Zae, Zaf, Zag, Zah, Zai, Zaj, Zak, Zal, Zam, Zan, Zao, Zap, Zaq, Zar, Zas, Zat, Zau, Zav, Zaw, Zax, Zay, Zaz, Za0, Za1, Za2, Za3, Za4, Za5, Za6, Za7, Za8, Za9, Zba, Zbb, Zbc, Zbd, Zbe, Zbf, Zbg, Zbh, Zbi, Zbj, Zbk, Zbl, Zbm, Zbn, Zbo, Zbp, Zbq, Zbr, Zbs, Zbt, Zbu, Zbv, Zbw, Zbx, Zby, Zbz, Zb0, Zb1, Zb2, decide_true, decide_false, Zb3, Zb4, Zb5, Zb6, Zb7, Zb8, Zb9, Zca, Zcb, Zcc, Zcd, beq_self_eq_true, cond_true, cond_false, if_false, if_true, reduceIte, reduceCtorEq, not_true_eq_false, not_false_eq_true, true_and, and_true, forall_const, false_and, and_false, implies_true, Zce, Zcf, Zcg, Zch, Zci]
          refine CallQ.of _ (add64 F _ _ _ (by omega) (by omega) (by omega) (by omega)) ?_
          simp (disch := omega) only [↓ZD, ZU, ne_eq, Zaa, Zab, false_implies, Zac, Zad, Zae, Zaf, Zag, Zah, Zai, Zaj, Zak, Zal, Zam, Zan, Zao, Zap, Zaq, Zar, Zas, Zat, Zau, Zav, Zaw, Zax, Zay, Zaz, Za0, Za1, Za2, Za3, Za4, Za5, Za6, Za7, Za8, Za9, Zba, Zbb, Zbc, Zbd, Zbe, Zbf, Zbg, Zbh, Zbi, Zbj, Zbk, Zbl, Zbm, Zbn, Zbo, Zbp, Zbq, Zbr, Zbs, Zbt, Zbu, Zbv, Zbw, Zbx, Zby, Zbz, Zb0, Zb1, Zb2, decide_true, decide_false, Zb3, Zb4, Zb5, Zb6, Zb7, Zb8, Zb9, Zca, Zcb, Zcc, Zcd, beq_self_eq_true, cond_true, cond_false, if_false, if_true, reduceIte, reduceCtorEq, not_true_eq_false, not_false_eq_true, true_and, and_true, forall_const, false_and, and_false, implies_true, Zce, Zcf, Zcg, Zch, Zci]
          have ns := nval_succ l i hlt
          have ha' : (l.take (i + 1)).all isD = true := by
            rw [List.take_add_one, List.all_append, ha, List.getElem?_eq_getElem hlt]
            have : l.getD i 0 = l[i] := by rw [List.getD_eq_getElem?_getD, List.getElem?_eq_getElem hlt]; rfl
            rw [this] at hc
            simp [isD]; omega
          revert hc hw ns
          generalize (l.getD i 0).toNat = c
          intro hc hw ns
          have e7 : (ov || decide (0 < (n : Int) * 10 / 18446744073709551616) || decide (0 < ((n : Int) * 10 % 18446744073709551616 + (c - 48)) / 18446744073709551616)) = (ov || decide (0 < n * 10 / 18446744073709551616) || decide (0 < (n * 10 % 18446744073709551616 + (c - 48)) / 18446744073709551616)) := by
            congr 1
            · congr 1; rw [decide_eq_decide]; omega
            · rw [decide_eq_decide]; omega
          refine invK.on (i + 1, (n * 10 % 18446744073709551616 + (c - 48)) % 18446744073709551616, (ov || decide (0 < n * 10 / 18446744073709551616) || decide (0 < (n * 10 % 18446744073709551616 + (c - 48)) / 18446744073709551616))) ⟨?_, ?_, ?_, ?_⟩ ?_ ?_ ?_
          · show i + 1 ≤ l.length
            omega
          · show _ % _ < _
            omega
          · exact ha'
          · show (if (ov || decide (0 < n * 10 / 18446744073709551616) || decide (0 < (n * 10 % 18446744073709551616 + (c - 48)) / 18446744073709551616)) = true then 18446744073709551616 ≤ nval (l.take (i + 1)) else (n * 10 % 18446744073709551616 + (c - 48)) % 18446744073709551616 = nval (l.take (i + 1)))
            rw [ns]
            cases ov with
            | true =>
              simp only [if_true] at hv
              simp only [Bool.true_or, if_true]; omega
            | false =>
              simp only [Bool.false_eq_true, if_false] at hv
              rw [← hv]
              split
              · rename_i h; simp at h; omega
              · rename_i h; simp at h; omega
          · show l.length - (i + 1) < l.length - i
            omega
          · simp only [Le_nil, Le_cons, ← e7]
            simp (disch := omega) only [↓ZD, ZU, ne_eq, Zaa, Zab, false_implies, Zac, Zad, Zae, Zaf, Zag, Zah, Zai, Zaj, Zak, Zal, Zam, Zan, Zao, Zap, Zaq, Zar, Zas, Zat, Zau, Zav, Zaw, Zax, Zay, Zaz, Za0, Za1, Za2, Za3, Za4, Za5, Za6, Za7, Za8, Za9, Zba, Zbb, Zbc, Zbd, Zbe, Zbf, Zbg, Zbh, Zbi, Zbj, Zbk, Zbl, Zbm, Zbn, Zbo, Zbp, Zbq, Zbr, Zbs, Zbt, Zbu, Zbv, Zbw, Zbx, Zby, Zbz, Zb0, Zb1, Zb2, decide_true, decide_false, Zb3, Zb4, Zb5, Zb6, Zb7, Zb8, Zb9, Zca, Zcb, Zcc, Zcd, beq_self_eq_true, cond_true, cond_false, if_false, if_true, reduceIte, reduceCtorEq, not_true_eq_false, not_false_eq_true, true_and, and_true, forall_const, false_and, and_false, implies_true, Zce, Zcf, Zcg, Zch, Zci]
            refine ⟨?_, ?_⟩
            · congr 2; omega
            · rfl
          · simp only [HLe_nil, HLe_cons]
            simp (disch := omega) only [↓ZD, ZU, ne_eq, Zaa, Zab, false_implies, Zac, Zad, Zae, Zaf, Zag, Zah, Zai, Zaj, Zak, Zal, Zam, Zan, Zao, Zap, Zaq, Zar, Zas, Zat, Zau, Zav, Zaw, Zax, Zay, Zaz, Za0, Za1, Za2, Za3, Za4, Za5, Za6, Za7, Za8, Za9, Zba, Zbb, Zbc, Zbd, Zbe, Zbf, Zbg, Zbh, Zbi, Zbj, Zbk, Zbl, Zbm, Zbn, Zbo, Zbp, Zbq, Zbr, Zbs, Zbt, Zbu, Zbv, Zbw, Zbx, Zby, Zbz, Zb0, Zb1, Zb2, decide_true, decide_false, Zb3, Zb4, Zb5, Zb6, Zb7, Zb8, Zb9, Zca, Zcb, Zcc, Zcd, beq_self_eq_true, cond_true, cond_false, if_false, if_true, reduceIte, reduceCtorEq, not_true_eq_false, not_false_eq_true, true_and, and_true, forall_const, false_and, and_false, implies_true, Zce, Zcf, Zcg, Zch, Zci]
      · have hd : decide ((i : Int) < (l.length : Int)) = false := by simp; omega
        simp (disch := omega) only [hF1, hd, ↓ZD, ZU, ne_eq, Zaa, Zab, false_implies, Zac, Zad, Zae, Zaf, Zag, Zah, Zai, Zaj, Zak, Zal, Zam, Zan, Zao, Zap, Zaq, Zar, Zas, Zat, Zau, Zav, Zaw, Zax, Zay, Zaz, Za0, Za1, Za2, Za3, Za4, Za5, Za6, Za7, Za8, Za9, Zba, Zbb, Zbc, Zbd, Zbe, Zbf, Zbg, Zbh, Zbi, Zbj, Zbk, Zbl, Zbm, Zbn, Zbo, Zbp, Zbq, Zbr, Zbs, Zbt, Zbu, Zbv, Zbw, Zbx, Zby, Zbz, Zb0, Zb1, Zb2, decide_true, decide_false, Zb3, Zb4, Zb5, Zb6, Zb7, Zb8, Zb9, Zca, Zcb, Zcc, Zcd, beq_self_eq_true, cond_true, cond_false, if_false, if_true, reduceIte, reduceCtorEq, not_true_eq_false, not_false_eq_true, true_and, and_true, forall_const, false_and, and_false, implies_true, Zce, Zcf, Zcg, Zch, Zci]
        have hil : i = l.length := by omega
        rw [hil, List.take_length] at ha hv
        have hr : readD m l = fitR (if m then -(nval l : Int) else nval l) := by
          unfold readD
          rw [if_neg]
          rintro (h | h | h)
          · exact hne h
          · exact hform h
          · rw [ha] at h; cases h
        refine ⟨fun h => ?_, fun h => ?_⟩
        · subst h
          simp only [if_true] at hv
          rw [hr]
          exact fit_no (by unfold I64; split <;> omega)
        · subst h
          simp only [Bool.false_eq_true, if_false] at hv
          rw [hr, ← hv]
          refine CallE.pure (number_pure F m n (by omega)) ?_
          simp (disch := omega) only [pr, ↓ZD, ZU, ne_eq, Zaa, Zab, false_implies, Zac, Zad, Zae, Zaf, Zag, Zah, Zai, Zaj, Zak, Zal, Zam, Zan, Zao, Zap, Zaq, Zar, Zas, Zat, Zau, Zav, Zaw, Zax, Zay, Zaz, Za0, Za1, Za2, Za3, Za4, Za5, Za6, Za7, Za8, Za9, Zba, Zbb, Zbc, Zbd, Zbe, Zbf, Zbg, Zbh, Zbi, Zbj, Zbk, Zbl, Zbm, Zbn, Zbo, Zbp, Zbq, Zbr, Zbs, Zbt, Zbu, Zbv, Zbw, Zbx, Zby, Zbz, Zb0, Zb1, Zb2, decide_true, decide_false, Zb3, Zb4, Zb5, Zb6, Zb7, Zb8, Zb9, Zca, Zcb, Zcc, Zcd, beq_self_eq_true, cond_true, cond_false, if_false, if_true, reduceIte, reduceCtorEq, not_true_eq_false, not_false_eq_true, true_and, and_true, forall_const, false_and, and_false, implies_true, Zce, Zcf, Zcg, Zch, Zci]
end Go.Proofs.YtndnpmlhofijjaaDoor
