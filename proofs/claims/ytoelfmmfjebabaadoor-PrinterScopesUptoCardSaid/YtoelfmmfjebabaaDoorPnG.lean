/- Layer 10: entities' names and literals of the reference. -/
import Derived.Test.YtoelfmmfjebabaaDoorPnF
namespace Go.Proofs.YtoelfmmfjebabaaDoor
open Go Go.Eng
open Int renaming reduceEq → Za, reduceToNat → Zm, reduceLE → Zn, reduceLT → Zo, reduceAdd → Zp, reduceSub → Zq, reduceNeg → Zr, reducePow → Zt, reduceNegSucc → Zv
open UInt8 renaming reduceOfNat → Zb
open List renaming mapM_cons → Zc, mapM_nil → Zd
open Nat renaming reduceAdd → Ze, reduceMul → Zf, reduceMod → Zg, reduceDiv → Zh, reduceEqDiff → Zi, reduceBEq → Zj, reduceLeDiff → Zk, reduceSub → Zl, reducePow → Zs, reduceLT → Zu
set_option linter.unusedSimpArgs false
set_option linter.unusedVariables false
set_option maxRecDepth 20000

theorem quote_len (s : Str) : (quote s).length ≤ 4 * s.length + 2 := by
  have key : (s.flatMap q1).length ≤ 4 * s.length := by
    induction s with
    | nil => simp
    | cons c s ih =>
      have := q1_len c
      simp only [List.flatMap_cons, List.length_append, List.length_cons]; omega
  unfold quote
  simp only [List.length_cons, List.length_append, List.length_nil]
  omega
theorem ruid_pure (F : Base) (ty id : Str) (h1 : Sm ty) (h2 : Sm id) : PureV Tryd.prog F 40 #[.agg #[.string (bs ty), .string (bs id)]] (.tuple #[.string (bs (uidT ty id)), .bool (okPath ty)]) := by
  have k2 := rpath10_pure F ty h1
  unfold Sm at h1 h2
  have k1 := rquote_pure F id (by omega)
  have ql := quote_len id
  refine pureV_of_svc mixed Tryd.func40 low40 (Nat.le_of_ble_eq_true rfl) (fun w0 => ?_)
  simp (disch := first | assumption | exact Ne.symm (by assumption) | omega) only [fu40, ↓ZD, ZU, ZR, Za, Zb, Zc, Zd, Ze, Zf, Zg, Zh, Zi, Zj, Zk, Zl, Zm, Zn, Zo, Zp, Zq, Zr, reduceIte, reduceCtorEq, Zs, Zt, Zu, Zv]
  refine NewB.of fun b3 hb3 hF3 => ?_
  simp (disch := first | assumption | exact Ne.symm (by assumption) | omega) only [hF3, ↓ZD, ZU, ZR, Za, Zb, Zc, Zd, Ze, Zf, Zg, Zh, Zi, Zj, Zk, Zl, Zm, Zn, Zo, Zp, Zq, Zr, reduceIte, reduceCtorEq, Zs, Zt, Zu, Zv]
  refine conj.of (by omega) ?_
  simp (disch := first | assumption | exact Ne.symm (by assumption) | omega) only [hF3, ↓ZD, ZU, ZR, Za, Zb, Zc, Zd, Ze, Zf, Zg, Zh, Zi, Zj, Zk, Zl, Zm, Zn, Zo, Zp, Zq, Zr, reduceIte, reduceCtorEq, Zs, Zt, Zu, Zv]
  refine CallQ.of _ k1.up ?_
  simp (disch := first | assumption | exact Ne.symm (by assumption) | omega) only [hF3, ↓ZD, ZU, ZR, Za, Zb, Zc, Zd, Ze, Zf, Zg, Zh, Zi, Zj, Zk, Zl, Zm, Zn, Zo, Zp, Zq, Zr, reduceIte, reduceCtorEq, Zs, Zt, Zu, Zv]
  refine conj.of (by omega) ?_
  simp (disch := first | assumption | exact Ne.symm (by assumption) | omega) only [hF3, ↓ZD, ZU, ZR, Za, Zb, Zc, Zd, Ze, Zf, Zg, Zh, Zi, Zj, Zk, Zl, Zm, Zn, Zo, Zp, Zq, Zr, reduceIte, reduceCtorEq, Zs, Zt, Zu, Zv]
  refine CallQ.of _ k2.up ?_
  simp (disch := first | assumption | exact Ne.symm (by assumption) | omega) only [hF3, ↓ZD, ZU, ZR, Za, Zb, Zc, Zd, Ze, Zf, Zg, Zh, Zi, Zj, Zk, Zl, Zm, Zn, Zo, Zp, Zq, Zr, reduceIte, reduceCtorEq, Zs, Zt, Zu, Zv]
  simp [uidT, cc]
theorem rlit_pure (F : Base) (v : LV) (u1 u2 : Value) (h1 : Sm v.ty) (h2 : Sm v.id) (h3 : Sm v.tx) (hn : I64 v.n) : PureV Tryd.prog F 35 #[.agg (v.cells u1 u2).toArray] (.tuple #[.string (bs (litT v)), .bool (litOk v)]) := by
  have kq := rquote_pure F v.tx (Nat.le_trans h3 (by decide))
  have ks := rshow_pure F v.n hn
  have ku := ruid_pure F v.ty v.id h1 h2
  obtain ⟨k, bo, n, tx, ty, id⟩ := v
  simp only at h1 h2 h3 hn kq ks ku
  refine pureV_of_svc mixed Tryd.func35 low35 (Nat.le_of_ble_eq_true rfl) (fun w0 => ?_)
  unfold LV.cells
  by_cases k1 : k = 1
  · have e1 : (k == 1) = true := by simpa using k1
    simp (disch := first | assumption | exact Ne.symm (by assumption) | omega) only [fu35, ↓ZD, ZU, ZR, Za, Zb, Zc, Zd, Ze, Zf, Zg, Zh, Zi, Zj, Zk, Zl, Zm, Zn, Zo, Zp, Zq, Zr, reduceIte, reduceCtorEq, Zs, Zt, Zu, Zv]
    refine NewB.of fun b3 hb3 hF3 => ?_
    simp (disch := first | assumption | exact Ne.symm (by assumption) | omega) only [hF3, e1, ↓ZD, ZU, ZR, Za, Zb, Zc, Zd, Ze, Zf, Zg, Zh, Zi, Zj, Zk, Zl, Zm, Zn, Zo, Zp, Zq, Zr, reduceIte, reduceCtorEq, Zs, Zt, Zu, Zv]
    cases bo <;> simp [litT, litOk, k1]
  have e1 : (k == 1) = false := by simpa using k1
  by_cases k2 : k = 2
  · have e2 : (k == 2) = true := by simpa using k2
    simp (disch := first | assumption | exact Ne.symm (by assumption) | omega) only [fu35, ↓ZD, ZU, ZR, Za, Zb, Zc, Zd, Ze, Zf, Zg, Zh, Zi, Zj, Zk, Zl, Zm, Zn, Zo, Zp, Zq, Zr, reduceIte, reduceCtorEq, Zs, Zt, Zu, Zv]
    refine NewB.of fun b3 hb3 hF3 => ?_
    simp (disch := first | assumption | exact Ne.symm (by assumption) | omega) only [hF3, e1, e2, ↓ZD, ZU, ZR, Za, Zb, Zc, Zd, Ze, Zf, Zg, Zh, Zi, Zj, Zk, Zl, Zm, Zn, Zo, Zp, Zq, Zr, reduceIte, reduceCtorEq, Zs, Zt, Zu, Zv]
    refine CallQ.of _ ks.up ?_
    simp (disch := first | assumption | exact Ne.symm (by assumption) | omega) only [hF3, ↓ZD, ZU, ZR, Za, Zb, Zc, Zd, Ze, Zf, Zg, Zh, Zi, Zj, Zk, Zl, Zm, Zn, Zo, Zp, Zq, Zr, reduceIte, reduceCtorEq, Zs, Zt, Zu, Zv]
    simp [litT, litOk, k2]
  have e2 : (k == 2) = false := by simpa using k2
  by_cases k3 : k = 3
  · have e3 : (k == 3) = true := by simpa using k3
    simp (disch := first | assumption | exact Ne.symm (by assumption) | omega) only [fu35, ↓ZD, ZU, ZR, Za, Zb, Zc, Zd, Ze, Zf, Zg, Zh, Zi, Zj, Zk, Zl, Zm, Zn, Zo, Zp, Zq, Zr, reduceIte, reduceCtorEq, Zs, Zt, Zu, Zv]
    refine NewB.of fun b3 hb3 hF3 => ?_
    simp (disch := first | assumption | exact Ne.symm (by assumption) | omega) only [hF3, e1, e2, e3, ↓ZD, ZU, ZR, Za, Zb, Zc, Zd, Ze, Zf, Zg, Zh, Zi, Zj, Zk, Zl, Zm, Zn, Zo, Zp, Zq, Zr, reduceIte, reduceCtorEq, Zs, Zt, Zu, Zv]
    refine CallE.pure kq ?_
    simp (disch := first | assumption | exact Ne.symm (by assumption) | omega) only [↓ZD, ZU, ZR, Za, Zb, Zc, Zd, Ze, Zf, Zg, Zh, Zi, Zj, Zk, Zl, Zm, Zn, Zo, Zp, Zq, Zr, reduceIte, reduceCtorEq, Zs, Zt, Zu, Zv]
    simp [litT, litOk, k3]
  have e3 : (k == 3) = false := by simpa using k3
  by_cases k4 : k = 4
  · have e4 : (k == 4) = true := by simpa using k4
    simp (disch := first | assumption | exact Ne.symm (by assumption) | omega) only [fu35, ↓ZD, ZU, ZR, Za, Zb, Zc, Zd, Ze, Zf, Zg, Zh, Zi, Zj, Zk, Zl, Zm, Zn, Zo, Zp, Zq, Zr, reduceIte, reduceCtorEq, Zs, Zt, Zu, Zv]
    refine NewB.of fun b3 hb3 hF3 => ?_
    simp (disch := first | assumption | exact Ne.symm (by assumption) | omega) only [hF3, e1, e2, e3, e4, ↓ZD, ZU, ZR, Za, Zb, Zc, Zd, Ze, Zf, Zg, Zh, Zi, Zj, Zk, Zl, Zm, Zn, Zo, Zp, Zq, Zr, reduceIte, reduceCtorEq, Zs, Zt, Zu, Zv]
    refine CallE.pure ku ?_
    simp (disch := first | assumption | exact Ne.symm (by assumption) | omega) only [↓ZD, ZU, ZR, Za, Zb, Zc, Zd, Ze, Zf, Zg, Zh, Zi, Zj, Zk, Zl, Zm, Zn, Zo, Zp, Zq, Zr, reduceIte, reduceCtorEq, Zs, Zt, Zu, Zv]
    simp [litT, litOk, k4]
  have e4 : (k == 4) = false := by simpa using k4
  simp (disch := first | assumption | exact Ne.symm (by assumption) | omega) only [fu35, ↓ZD, ZU, ZR, Za, Zb, Zc, Zd, Ze, Zf, Zg, Zh, Zi, Zj, Zk, Zl, Zm, Zn, Zo, Zp, Zq, Zr, reduceIte, reduceCtorEq, Zs, Zt, Zu, Zv]
  refine NewB.of fun b3 hb3 hF3 => ?_
  simp (disch := first | assumption | exact Ne.symm (by assumption) | omega) only [hF3, e1, e2, e3, e4, ↓ZD, ZU, ZR, Za, Zb, Zc, Zd, Ze, Zf, Zg, Zh, Zi, Zj, Zk, Zl, Zm, Zn, Zo, Zp, Zq, Zr, reduceIte, reduceCtorEq, Zs, Zt, Zu, Zv]
  simp [litT, litOk, k1, k2, k3, k4]
end Go.Proofs.YtoelfmmfjebabaaDoor
