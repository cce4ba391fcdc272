/- Layer 2: a text in quotes. -/
import Derived.Test.YtoelfmmfjebabaaDoorTxC
namespace Go.Proofs.YtoelfmmfjebabaaDoor
open Go Go.Eng
open Int renaming reduceEq → Za, reduceToNat → Zm, reduceLE → Zn, reduceLT → Zo, reduceAdd → Zp, reduceSub → Zq, reduceNeg → Zr, reducePow → Zt, reduceNegSucc → Zv
open UInt8 renaming reduceOfNat → Zb
open List renaming mapM_cons → Zc, mapM_nil → Zd
open Nat renaming reduceAdd → Ze, reduceMul → Zf, reduceMod → Zg, reduceDiv → Zh, reduceEqDiff → Zi, reduceBEq → Zj, reduceLeDiff → Zk, reduceSub → Zl, reducePow → Zs, reduceLT → Zu
set_option linter.unusedSimpArgs false
set_option linter.unusedVariables false
set_option maxRecDepth 20000

theorem quote_pure (F : Base) (s : List UInt8) (hs : s.length ≤ 1000000000000) : PureV Tryd.prog F 30 #[.string (bs s)] (.string (bs (quote s))) := by
  refine pureV_of_svcW mixed Tryd.func30 low30 (Nat.le_of_ble_eq_true rfl) (fun w0 hw0 => ?_)
  simp (disch := first | assumption | exact Ne.symm (by assumption) | omega) only [fu30, ↓ZD, ZU, ZR, Za, Zb, Zc, Zd, Ze, Zf, Zg, Zh, Zi, Zj, Zk, Zl, Zm, Zn, Zo, Zp, Zq, Zr, reduceIte, reduceCtorEq, Zs, Zt, Zu, Zv]
  refine NewB.of fun b hb hF => ?_
  simp (disch := first | assumption | exact Ne.symm (by assumption) | omega) only [hF, ↓ZD, ZU, ZR, Za, Zb, Zc, Zd, Ze, Zf, Zg, Zh, Zi, Zj, Zk, Zl, Zm, Zn, Zo, Zp, Zq, Zr, reduceIte, reduceCtorEq, Zs, Zt, Zu, Zv]
  refine CallE.does ((b, BuiO (.pointer none) (.slice none 0 0)) :: []) [] (wbyte_does F b (.pointer none) _ [] [] 34 (.inl rfl) hF (by simp) .nil (by simp)) (fun _ _ h => by simp [rdObj, h]) (fun e h => h) (fun e h => by cases h) (fun e h => by cases h) ?_
  rintro _ _ ⟨rfl, v, Ho, ho, hd, rfl⟩ - - -
  simp (disch := first | assumption | exact Ne.symm (by assumption) | omega) only [hF, ↓ZD, ZU, ZR, Za, Zb, Zc, Zd, Ze, Zf, Zg, Zh, Zi, Zj, Zk, Zl, Zm, Zn, Zo, Zp, Zq, Zr, reduceIte, reduceCtorEq, Zs, Zt, Zu, Zv]
  refine LoopL.inv (α := Nat × Value × Hp) (fun x => x.1 ≤ s.length ∧ OwnS F 1 5 (byteCells (34 :: (s.take x.1).flatMap q1)) (34 :: (s.take x.1).flatMap q1).length x.2.1 x.2.2 ∧ ∀ e ∈ x.2.2, e.1 ≠ b)
    (fun x => [(0, some (.string (bs s))), (3, some (.pointer (some ⟨b, 0, none⟩))), (7, some (.int .i64 s.length)), (8, some (.int .i64 x.1))])
    (fun x => (b, BuiO (.pointer (some ⟨b, 0, none⟩)) x.2.1) :: x.2.2) (fun x => s.length - x.1) (0, v, Ho) ⟨Nat.zero_le _, ho, hd⟩ (by (simp only [Le_nil, Le_cons]; simp (disch := first | assumption | exact Ne.symm (by assumption) | omega) only [↓ZD, ZU, ZR, Za, Zb, Zc, Zd, Ze, Zf, Zg, Zh, Zi, Zj, Zk, Zl, Zm, Zn, Zo, Zp, Zq, Zr, reduceIte, reduceCtorEq, Zs, Zt, Zu, Zv]; try trivial)) ?_ ?_
  · refine ⟨lk_eq, ho.hle [_] (by simp only [List.forall_mem_cons, List.not_mem_nil, false_implies, implies_true, and_true]; exact hd)⟩
  rintro ⟨i, v, Ho⟩ ⟨hi, ho, hd⟩
  have hlen := flat_len (s.take i)
  rw [List.length_take] at hlen
  simp only at hi ho hd
  by_cases hlt : i < s.length
  · have hd2 : decide ((i : Int) < (s.length : Int)) = true := by simp; omega
    have hs1 := flat_snoc hlt
    simp (disch := first | assumption | exact Ne.symm (by assumption) | omega) only [hd2, Int.toNat_natCast, ↓ZD, ZU, ZR, Za, Zb, Zc, Zd, Ze, Zf, Zg, Zh, Zi, Zj, Zk, Zl, Zm, Zn, Zo, Zp, Zq, Zr, reduceIte, reduceCtorEq, Zs, Zt, Zu, Zv]
    refine conj.of (by omega) ?_
    simp (disch := first | assumption | exact Ne.symm (by assumption) | omega) only [Int.toNat_natCast, ↓ZD, ZU, ZR, Za, Zb, Zc, Zd, Ze, Zf, Zg, Zh, Zi, Zj, Zk, Zl, Zm, Zn, Zo, Zp, Zq, Zr, reduceIte, reduceCtorEq, Zs, Zt, Zu, Zv]
    refine CallE.pure (one_pure F _) ?_
    simp (disch := first | assumption | exact Ne.symm (by assumption) | omega) only [↓ZD, ZU, ZR, Za, Zb, Zc, Zd, Ze, Zf, Zg, Zh, Zi, Zj, Zk, Zl, Zm, Zn, Zo, Zp, Zq, Zr, reduceIte, reduceCtorEq, Zs, Zt, Zu, Zv]
    refine CallE.does ((b, BuiO (.pointer (some ⟨b, 0, none⟩)) v) :: Ho) [] (wstr_does F b _ v Ho _ (q1 (s.getD i 0)) (.inr rfl) hF hd ho (by have := q1_len (s.getD i 0); simp only [List.length_cons]; omega)) (fun _ _ h => by simp [rdObj, h]) (fun e h => h) (fun e h => by cases h) (fun e h => by cases h) ?_
    rintro _ _ ⟨rfl, v', Ho', ho', hd', rfl⟩ - - -
    simp (disch := first | assumption | exact Ne.symm (by assumption) | omega) only [hF, ↓ZD, ZU, ZR, Za, Zb, Zc, Zd, Ze, Zf, Zg, Zh, Zi, Zj, Zk, Zl, Zm, Zn, Zo, Zp, Zq, Zr, reduceIte, reduceCtorEq, Zs, Zt, Zu, Zv]
    rw [List.cons_append, ← hs1] at ho'
    refine invK.on (i + 1, v', Ho') ⟨by simp only; omega, ho', hd'⟩ (by simp only; omega) (by (simp only [Le_nil, Le_cons]; simp (disch := first | assumption | exact Ne.symm (by assumption) | omega) only [↓ZD, ZU, ZR, Za, Zb, Zc, Zd, Ze, Zf, Zg, Zh, Zi, Zj, Zk, Zl, Zm, Zn, Zo, Zp, Zq, Zr, reduceIte, reduceCtorEq, Zs, Zt, Zu, Zv]; try trivial)) ?_
    exact ⟨lk_eq, ho'.hle [_] (by simp only [List.forall_mem_cons, List.not_mem_nil, false_implies, implies_true, and_true]; exact hd')⟩
  · have hd2 : decide ((i : Int) < (s.length : Int)) = false := by simp; omega
    have : i = s.length := by omega
    subst this
    rw [List.take_length] at ho hlen
    simp (disch := first | assumption | exact Ne.symm (by assumption) | omega) only [hd2, ↓ZD, ZU, ZR, Za, Zb, Zc, Zd, Ze, Zf, Zg, Zh, Zi, Zj, Zk, Zl, Zm, Zn, Zo, Zp, Zq, Zr, reduceIte, reduceCtorEq, Zs, Zt, Zu, Zv]
    refine CallE.does ((b, BuiO (.pointer (some ⟨b, 0, none⟩)) v) :: Ho) [] (wbyte_does F b _ v Ho _ 34 (.inr rfl) hF hd ho (by simp only [List.length_cons]; omega)) (fun _ _ h => by simp [rdObj, h]) (fun e h => h) (fun e h => by cases h) (fun e h => by cases h) ?_
    rintro _ _ ⟨rfl, v', Ho', ho', hd', rfl⟩ - - -
    simp (disch := first | assumption | exact Ne.symm (by assumption) | omega) only [hF, ↓ZD, ZU, ZR, Za, Zb, Zc, Zd, Ze, Zf, Zg, Zh, Zi, Zj, Zk, Zl, Zm, Zn, Zo, Zp, Zq, Zr, reduceIte, reduceCtorEq, Zs, Zt, Zu, Zv]
    refine CallE.any (bstring_call hw0 b _ v' Ho' _ List.mem_cons_self (fun e he => List.mem_cons_of_mem _ he) hd' (.inr rfl) ho' ?_)
    simp (disch := first | assumption | exact Ne.symm (by assumption) | omega) only [hF, ↓ZD, ZU, ZR, Za, Zb, Zc, Zd, Ze, Zf, Zg, Zh, Zi, Zj, Zk, Zl, Zm, Zn, Zo, Zp, Zq, Zr, reduceIte, reduceCtorEq, Zs, Zt, Zu, Zv]
    rfl
end Go.Proofs.YtoelfmmfjebabaaDoor
