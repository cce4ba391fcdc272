/- Layer 10: how many an operator has; paths, names and literals of the reference. -/
import Derived.Test.YtoelfmmfjebabaaDoorPnE
namespace Go.Proofs.YtoelfmmfjebabaaDoor
open Go Go.Eng
open Int renaming reduceEq → Za, reduceToNat → Zm, reduceLE → Zn, reduceLT → Zo, reduceAdd → Zp, reduceSub → Zq, reduceNeg → Zr, reducePow → Zt, reduceNegSucc → Zv
open UInt8 renaming reduceOfNat → Zb
open List renaming mapM_cons → Zc, mapM_nil → Zd
open Nat renaming reduceAdd → Ze, reduceMul → Zf, reduceMod → Zg, reduceDiv → Zh, reduceEqDiff → Zi, reduceBEq → Zj, reduceLeDiff → Zk, reduceSub → Zl, reducePow → Zs, reduceLT → Zu
set_option linter.unusedSimpArgs false
set_option linter.unusedVariables false
set_option maxRecDepth 20000

def kidsI (op : Int) : Int := if op < 1 ∨ 23 < op then 4 else if op ≤ 3 then 0 else if op = 6 ∨ op = 14 ∨ (16 ≤ op ∧ op ≤ 18) then 1 else if op = 7 then 3 else if op = 19 ∨ op = 20 then -1 else 2
def manyI (op : Int) : Int := if op < 1 ∨ 23 < op then -2 else kidsI op
theorem ops_of (op : Int) : op < 1 ∨ op = 1 ∨ op = 2 ∨ op = 3 ∨ op = 4 ∨ op = 5 ∨ op = 6 ∨ op = 7 ∨ op = 8 ∨ op = 9 ∨ op = 10 ∨ op = 11 ∨ op = 12 ∨ op = 13 ∨ op = 14 ∨ op = 15 ∨ op = 16 ∨ op = 17 ∨ op = 18 ∨ op = 19 ∨ op = 20 ∨ op = 21 ∨ op = 22 ∨ op = 23 ∨ 23 < op := by omega
theorem kids_pure (F : Base) (op : Int) : PureV Tryd.prog F 22 #[.int .i64 op] (.int .i64 (kidsI op)) := by
  refine pureV_of_svc mixed Tryd.func22 low22 (Nat.le_of_ble_eq_true rfl) (fun w0 => ?_)
  simp (disch := first | assumption | exact Ne.symm (by assumption) | omega) only [fu22, ↓ZD, ZU, ZR, Za, Zb, Zc, Zd, Ze, Zf, Zg, Zh, Zi, Zj, Zk, Zl, Zm, Zn, Zo, Zp, Zq, Zr, reduceIte, reduceCtorEq, Zs, Zt, Zu, Zv]
  simp only [Value.int.injEq, true_and]
  unfold kidsI
  rcases ops_of op with ho | rfl | rfl | rfl | rfl | rfl | rfl | rfl | rfl | rfl | rfl | rfl | rfl | rfl | rfl | rfl | rfl | rfl | rfl | rfl | rfl | rfl | rfl | rfl | ho
  · simp only [decide_eq_true_eq, decide_eq_false_iff_not, Bool.or_eq_true, Bool.and_eq_true, Bool.or_eq_false_iff, Bool.and_eq_false_iff, beq_iff_eq, beq_eq_false_iff_ne]
    rw [if_pos (.inl ho)]
    omega
  all_goals first | decide | skip
  · simp only [decide_eq_true_eq, decide_eq_false_iff_not, Bool.or_eq_true, Bool.and_eq_true, Bool.or_eq_false_iff, Bool.and_eq_false_iff, beq_iff_eq, beq_eq_false_iff_ne]
    rw [if_pos (.inr ho)]
    omega
theorem many_pure (F : Base) (op : Int) : PureV Tryd.prog F 34 #[.int .i64 op] (.int .i64 (manyI op)) := by
  refine pureV_of_svc mixed Tryd.func34 low34 (Nat.le_of_ble_eq_true rfl) (fun w0 => ?_)
  by_cases ho : op < 1 ∨ 23 < op
  · have hd : (decide (op < 1) || decide (23 < op)) = true := by simpa using ho
    have e1 : (op == 1) = false := by simp only [beq_eq_false_iff_ne]; omega
    have e2 : (op == 2) = false := by simp only [beq_eq_false_iff_ne]; omega
    have e3 : (op == 3) = false := by simp only [beq_eq_false_iff_ne]; omega
    have e6 : (op == 6) = false := by simp only [beq_eq_false_iff_ne]; omega
    have e14 : (op == 14) = false := by simp only [beq_eq_false_iff_ne]; omega
    have e16 : (op == 16) = false := by simp only [beq_eq_false_iff_ne]; omega
    have e17 : (op == 17) = false := by simp only [beq_eq_false_iff_ne]; omega
    have e18 : (op == 18) = false := by simp only [beq_eq_false_iff_ne]; omega
    have e7 : (op == 7) = false := by simp only [beq_eq_false_iff_ne]; omega
    have e19 : (op == 19) = false := by simp only [beq_eq_false_iff_ne]; omega
    have e20 : (op == 20) = false := by simp only [beq_eq_false_iff_ne]; omega
    have e0 : manyI op = -2 := by unfold manyI; rw [if_pos ho]
    simp (disch := first | assumption | exact Ne.symm (by assumption) | omega) only [fu34, hd, e0, e1, e2, e3, e6, e14, e16, e17, e18, e7, e19, e20, ↓ZD, ZU, ZR, Za, Zb, Zc, Zd, Ze, Zf, Zg, Zh, Zi, Zj, Zk, Zl, Zm, Zn, Zo, Zp, Zq, Zr, reduceIte, reduceCtorEq, Zs, Zt, Zu, Zv]
  · simp (disch := first | assumption | exact Ne.symm (by assumption) | omega) only [fu34, ↓ZD, ZU, ZR, Za, Zb, Zc, Zd, Ze, Zf, Zg, Zh, Zi, Zj, Zk, Zl, Zm, Zn, Zo, Zp, Zq, Zr, reduceIte, reduceCtorEq, Zs, Zt, Zu, Zv]
    rcases ops_of op with ho' | rfl | rfl | rfl | rfl | rfl | rfl | rfl | rfl | rfl | rfl | rfl | rfl | rfl | rfl | rfl | rfl | rfl | rfl | rfl | rfl | rfl | rfl | rfl | ho'
    · exact absurd (.inl ho') ho
    all_goals first
      | (simp only [Int.reduceBEq, Int.reduceLT, decide_false, Bool.or_self, Bool.false_eq_true, Bool.true_eq_false, false_implies, true_and, and_true, forall_const, Value.int.injEq]; (try decide); done)
      | exact absurd (.inr ho') ho
theorem fst58_at {s : Str} {i : Nat} (hi : i ≤ s.length) (ha : (s.take i).all (· != 58) = true) (hx : i = s.length ∨ s.getD i 0 = 58) : s.take i = fst58 s := by
  unfold fst58
  rcases hx with rfl | hx
  · rw [List.take_length] at ha ⊢
    exact (takeWhile_all (List.all_eq_true.1 ha)).symm
  · rcases Nat.lt_or_ge i s.length with hlt | hge
    · have hd : s.drop i = 58 :: s.drop (i + 1) := by
        rw [List.drop_eq_getElem_cons hlt]
        rw [List.getD_eq_getElem?_getD, List.getElem?_eq_getElem hlt] at hx
        simp only [Option.getD_some] at hx
        rw [hx]
      conv => rhs; rw [← List.take_append_drop i s, hd]
      rw [List.takeWhile_append_of_pos (List.all_eq_true.1 ha), List.takeWhile_cons, if_neg (by decide), List.append_nil]
    · obtain rfl : i = s.length := by omega
      rw [List.take_length] at ha ⊢
      exact (takeWhile_all (List.all_eq_true.1 ha)).symm
theorem rpath10_pure (F : Base) (s : Str) (hs : Sm s) : PureV Tryd.prog F 36 #[.string (bs s)] (.bool (okPath s)) := by
  unfold Sm at hs
  have k1 := rpath_pure F s (by omega)
  refine pureV_of_svc mixed Tryd.func36 low36 (Nat.le_of_ble_eq_true rfl) (fun w0 => ?_)
  simp (disch := first | assumption | exact Ne.symm (by assumption) | omega) only [fu36, ↓ZD, ZU, ZR, Za, Zb, Zc, Zd, Ze, Zf, Zg, Zh, Zi, Zj, Zk, Zl, Zm, Zn, Zo, Zp, Zq, Zr, reduceIte, reduceCtorEq, Zs, Zt, Zu, Zv]
  refine LoopL.inv (α := Nat) (fun i => i ≤ s.length ∧ (s.take i).all (· != 58) = true)
    (fun i => [(0, some (.string (bs s))), (3, some (.int .i64 i))]) (fun i => []) (fun i => s.length - i) 0 ⟨Nat.zero_le _, rfl⟩ (by (simp only [Le_nil, Le_cons]; simp (disch := first | assumption | exact Ne.symm (by assumption) | omega) only [↓ZD, ZU, ZR, Za, Zb, Zc, Zd, Ze, Zf, Zg, Zh, Zi, Zj, Zk, Zl, Zm, Zn, Zo, Zp, Zq, Zr, reduceIte, reduceCtorEq, Zs, Zt, Zu, Zv]; try trivial)) (by (simp only [HLe_nil, HLe_cons]; try (simp (disch := first | assumption | exact Ne.symm (by assumption) | omega) only [↓ZD, ZU, ZR, Za, Zb, Zc, Zd, Ze, Zf, Zg, Zh, Zi, Zj, Zk, Zl, Zm, Zn, Zo, Zp, Zq, Zr, reduceIte, reduceCtorEq, Zs, Zt, Zu, Zv]))) ?_
  rintro i ⟨hi, ha⟩
  by_cases hlt : i < s.length
  · have hd : decide ((i : Int) < (s.length : Int)) = true := by simp; omega
    simp (disch := first | assumption | exact Ne.symm (by assumption) | omega) only [hd, Int.toNat_natCast, ↓ZD, ZU, ZR, Za, Zb, Zc, Zd, Ze, Zf, Zg, Zh, Zi, Zj, Zk, Zl, Zm, Zn, Zo, Zp, Zq, Zr, reduceIte, reduceCtorEq, Zs, Zt, Zu, Zv]
    refine conj.of (by omega) ?_
    simp (disch := first | assumption | exact Ne.symm (by assumption) | omega) only [hd, Int.toNat_natCast, ↓ZD, ZU, ZR, Za, Zb, Zc, Zd, Ze, Zf, Zg, Zh, Zi, Zj, Zk, Zl, Zm, Zn, Zo, Zp, Zq, Zr, reduceIte, reduceCtorEq, Zs, Zt, Zu, Zv]
    have e58 : ((((s.getD i 0).toNat : Nat) : Int) != 58) = (s.getD i 0 != 58) := by
      rw [Bool.eq_iff_iff, bne_iff_ne, bne_iff_ne, ne_eq, ne_eq, ← UInt8.toNat_inj]
      show ¬ _ ↔ ¬ _ = 58
      omega
    rw [e58]
    refine ⟨fun hc => ?_, fun hc => ?_⟩
    · refine invK.on (i + 1) (⟨by omega, by rw [all_snoc hlt, ha, hc]; rfl⟩) (by omega) (by (simp only [Le_nil, Le_cons]; simp (disch := first | assumption | exact Ne.symm (by assumption) | omega) only [↓ZD, ZU, ZR, Za, Zb, Zc, Zd, Ze, Zf, Zg, Zh, Zi, Zj, Zk, Zl, Zm, Zn, Zo, Zp, Zq, Zr, reduceIte, reduceCtorEq, Zs, Zt, Zu, Zv]; try trivial)) (by (simp only [HLe_nil, HLe_cons]; try (simp (disch := first | assumption | exact Ne.symm (by assumption) | omega) only [↓ZD, ZU, ZR, Za, Zb, Zc, Zd, Ze, Zf, Zg, Zh, Zi, Zj, Zk, Zl, Zm, Zn, Zo, Zp, Zq, Zr, reduceIte, reduceCtorEq, Zs, Zt, Zu, Zv])))
    · have he := fst58_at hi ha (.inr (by simpa using hc))
      refine CallE.pure k1 ?_
      simp (disch := first | assumption | exact Ne.symm (by assumption) | omega) only [↓ZD, ZU, ZR, Za, Zb, Zc, Zd, Ze, Zf, Zg, Zh, Zi, Zj, Zk, Zl, Zm, Zn, Zo, Zp, Zq, Zr, reduceIte, reduceCtorEq, Zs, Zt, Zu, Zv]
      refine conj.of (fun _ => by omega) ?_
      simp (disch := first | assumption | exact Ne.symm (by assumption) | omega) only [Int.toNat_natCast, List.drop_zero, Nat.sub_zero, he, ↓ZD, ZU, ZR, Za, Zb, Zc, Zd, Ze, Zf, Zg, Zh, Zi, Zj, Zk, Zl, Zm, Zn, Zo, Zp, Zq, Zr, reduceIte, reduceCtorEq, Zs, Zt, Zu, Zv]
      refine CallQ.of _ (fun _ => (uses_own F (fst58 s)).up) ?_
      simp (disch := first | assumption | exact Ne.symm (by assumption) | omega) only [↓ZD, ZU, ZR, Za, Zb, Zc, Zd, Ze, Zf, Zg, Zh, Zi, Zj, Zk, Zl, Zm, Zn, Zo, Zp, Zq, Zr, reduceIte, reduceCtorEq, Zs, Zt, Zu, Zv]
      first | rfl | (unfold okPath; cases pathB s <;> rfl)
  · have hd : decide ((i : Int) < (s.length : Int)) = false := by simp; omega
    simp (disch := first | assumption | exact Ne.symm (by assumption) | omega) only [hd, Int.toNat_natCast, ↓ZD, ZU, ZR, Za, Zb, Zc, Zd, Ze, Zf, Zg, Zh, Zi, Zj, Zk, Zl, Zm, Zn, Zo, Zp, Zq, Zr, reduceIte, reduceCtorEq, Zs, Zt, Zu, Zv]
    have he := fst58_at hi ha (.inl (by omega))
    refine CallE.pure k1 ?_
    simp (disch := first | assumption | exact Ne.symm (by assumption) | omega) only [↓ZD, ZU, ZR, Za, Zb, Zc, Zd, Ze, Zf, Zg, Zh, Zi, Zj, Zk, Zl, Zm, Zn, Zo, Zp, Zq, Zr, reduceIte, reduceCtorEq, Zs, Zt, Zu, Zv]
    refine conj.of (fun _ => by omega) ?_
    simp (disch := first | assumption | exact Ne.symm (by assumption) | omega) only [Int.toNat_natCast, List.drop_zero, Nat.sub_zero, he, ↓ZD, ZU, ZR, Za, Zb, Zc, Zd, Ze, Zf, Zg, Zh, Zi, Zj, Zk, Zl, Zm, Zn, Zo, Zp, Zq, Zr, reduceIte, reduceCtorEq, Zs, Zt, Zu, Zv]
    refine CallQ.of _ (fun _ => (uses_own F (fst58 s)).up) ?_
    simp (disch := first | assumption | exact Ne.symm (by assumption) | omega) only [↓ZD, ZU, ZR, Za, Zb, Zc, Zd, Ze, Zf, Zg, Zh, Zi, Zj, Zk, Zl, Zm, Zn, Zo, Zp, Zq, Zr, reduceIte, reduceCtorEq, Zs, Zt, Zu, Zv]
    first | rfl | (unfold okPath; cases pathB s <;> rfl)
end Go.Proofs.YtoelfmmfjebabaaDoor
