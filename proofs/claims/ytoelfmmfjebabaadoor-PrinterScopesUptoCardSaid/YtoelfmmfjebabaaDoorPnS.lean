/- Layer 10: an expression's text, of both. -/
import Derived.Test.YtoelfmmfjebabaaDoorPnQ
import Derived.Test.YtoelfmmfjebabaaDoorPnR
import Derived.Test.YtoelfmmfjebabaaDoorPnM
namespace Go.Proofs.YtoelfmmfjebabaaDoor
open Go Go.Eng
open Int renaming reduceEq → Za, reduceToNat → Zm, reduceLE → Zn, reduceLT → Zo, reduceAdd → Zp, reduceSub → Zq, reduceNeg → Zr, reducePow → Zt, reduceNegSucc → Zv
open UInt8 renaming reduceOfNat → Zb
open List renaming mapM_cons → Zc, mapM_nil → Zd
open Nat renaming reduceAdd → Ze, reduceMul → Zf, reduceMod → Zg, reduceDiv → Zh, reduceEqDiff → Zi, reduceBEq → Zj, reduceLeDiff → Zk, reduceSub → Zl, reducePow → Zs, reduceLT → Zu
set_option linter.unusedSimpArgs false
set_option linter.unusedVariables false
set_option maxRecDepth 20000

theorem expr_xw {F : Base} (hM : HasM F) (hS : HasSigns F) {cs : List Value} {x : Ex'} (h : RepX F cs x) : wt x ≤ 1048576 → XW F x cs := by
  induction h with
  | mk op v u1 u2 nm a1 c1 kids g1 vn names hu hop hk hn hl1 hc1 h1 r1 hN i1 =>
    intro hw F' hF b s bad hl
    obtain ⟨⟨d1, d2, d3, rfl⟩, d4, d5, d6, rfl⟩ := hu
    refine expr_node F' (hM.mono hF) (hS.mono hF) hop hk hn hl1 hc1 (fun i t h => (h1 i t h).mono hF) (fun i t h => (r1 i t h).mono hF) (hN.mono hF) hw (fun i t h => (i1 i t h ?_).mono hF) b s bad hl
    rw [wt] at hw
    have := wtL_mem h
    omega
/-- An expression's text, and the error. -/
def ptx (x : Ex') : Str × Int := if 50 < depX x then ([], 11) else if okX x then (pt x, 0) else ([], 1)
theorem pexpr_pure {F : Base} (hM : HasM F) (hS : HasSigns F) {cs : List Value} {x : Ex'} (h : RepX F cs x) (hw : wt x ≤ 1048576) :
    PureV Tryd.prog F 9 #[.agg cs.toArray] (.tuple #[.string (bs (ptx x).1), .int .i64 (ptx x).2]) := by
  have hd := dep_pure F h hw
  have hl := pt_len h
  have hx := expr_xw hM hS h hw
  obtain ⟨op, k, bo, n, s1, s2, s3, d1, d2, d3, d4, d5, d6, nm, a1, n1, c1, a2, n2, c2, rfl⟩ := h.form
  refine pureV_of_svc mixed Tryd.func9 low9 (Nat.le_of_ble_eq_true rfl) (fun w0 => ?_)
  simp (disch := first | assumption | exact Ne.symm (by assumption) | omega) only [fu9, ↓ZD, ZU, ZR, Za, Zb, Zc, Zd, Ze, Zf, Zg, Zh, Zi, Zj, Zk, Zl, Zm, Zn, Zo, Zp, Zq, Zr, reduceIte, reduceCtorEq, Zs, Zt, Zu, Zv]
  refine NewB.of fun b1 hb1 hF1 => ?_
  simp (disch := first | assumption | exact Ne.symm (by assumption) | omega) only [hF1, ↓ZD, ZU, ZR, Za, Zb, Zc, Zd, Ze, Zf, Zg, Zh, Zi, Zj, Zk, Zl, Zm, Zn, Zo, Zp, Zq, Zr, reduceIte, reduceCtorEq, Zs, Zt, Zu, Zv]
  refine CallE.pure hd ?_
  by_cases h50 : 50 < depX x
  · have e1 : decide ((50 : Int) < (depX x : Int)) = true := by simp; omega
    simp (disch := first | assumption | exact Ne.symm (by assumption) | omega) only [e1, hF1, ↓ZD, ZU, ZR, Za, Zb, Zc, Zd, Ze, Zf, Zg, Zh, Zi, Zj, Zk, Zl, Zm, Zn, Zo, Zp, Zq, Zr, reduceIte, reduceCtorEq, Zs, Zt, Zu, Zv]
    simp [ptx, h50]
  · have e1 : decide ((50 : Int) < (depX x : Int)) = false := by simp; omega
    simp (disch := first | assumption | exact Ne.symm (by assumption) | omega) only [e1, hF1, ↓ZD, ZU, ZR, Za, Zb, Zc, Zd, Ze, Zf, Zg, Zh, Zi, Zj, Zk, Zl, Zm, Zn, Zo, Zp, Zq, Zr, reduceIte, reduceCtorEq, Zs, Zt, Zu, Zv]
    refine NewB.of fun b hb hF => ?_
    simp only [List.forall_mem_cons, List.not_mem_nil, false_implies, implies_true, and_true] at hb
    simp (disch := first | assumption | exact Ne.symm (by assumption) | omega) only [hF1, hF, ↓ZD, ZU, ZR, Za, Zb, Zc, Zd, Ze, Zf, Zg, Zh, Zi, Zj, Zk, Zl, Zm, Zn, Zo, Zp, Zq, Zr, reduceIte, reduceCtorEq, Zs, Zt, Zu, Zv]
    refine CallE.wr [(b1, .cells #[Value.int IntKind.i64 op, Value.int IntKind.i64 k, Value.bool bo, Value.int IntKind.i64 n, Value.string (bs s1), Value.string (bs s2), Value.string (bs s3), Value.slice d1 d2 d3, Value.slice d4 d5 d6, Value.string (bs nm), Value.slice a1 n1 c1, Value.slice a2 n2 c2] 30 (0, 0))] [(b, PrO (.pointer none) (.slice none 0 0) false)] (hx _ le_up b [] false (by simp only [List.length_nil]; omega)) ⟨_, _, [], .inl rfl, .nil, by simp, hF, rfl⟩ (by simp +contextual) (by simp) (by simpa using Ne.symm hb) ?_
    intro H2 hp2 hd2
    have hp3 := hp2
    obtain ⟨p, v, Ho, hpp, ho, hd3, hFb, rfl⟩ := hp2
    simp only [List.forall_mem_cons, List.not_mem_nil, false_implies, implies_true, and_true] at hd2
    obtain ⟨hd20, hd21⟩ := hd2
    cases hok : okX x with
    | false =>
      simp (disch := first | assumption | exact Ne.symm (by assumption) | omega) only [hF1, hF, hok, Bool.not_false, Bool.or_true, ↓ZD, ZU, ZR, Za, Zb, Zc, Zd, Ze, Zf, Zg, Zh, Zi, Zj, Zk, Zl, Zm, Zn, Zo, Zp, Zq, Zr, reduceIte, reduceCtorEq, Zs, Zt, Zu, Zv]
      simp [ptx, h50, hok]
    | true =>
      rw [hok] at hp3
      simp (disch := first | assumption | exact Ne.symm (by assumption) | omega) only [hF1, hF, hok, Bool.not_true, Bool.or_false, ↓ZD, ZU, ZR, Za, Zb, Zc, Zd, Ze, Zf, Zg, Zh, Zi, Zj, Zk, Zl, Zm, Zn, Zo, Zp, Zq, Zr, reduceIte, reduceCtorEq, Zs, Zt, Zu, Zv]
      refine CallE.does ((b, PrO p v false) :: Ho) [(b1, .cells #[Value.int IntKind.i64 op, Value.int IntKind.i64 k, Value.bool bo, Value.int IntKind.i64 n, Value.string (bs s1), Value.string (bs s2), Value.string (bs s3), Value.slice d1 d2 d3, Value.slice d4 d5 d6, Value.string (bs nm), Value.slice a1 n1 c1, Value.slice a2 n2 c2] 30 (0, 0))] (string_does _ b (pt x) false (hp3.up (by simp only [List.forall_mem_cons, List.not_mem_nil, false_implies, implies_true, and_true]; exact ⟨hd20, hd21⟩))) (fun _ _ h => h) (by simp +contextual) (by simp +contextual) (by simp only [List.forall_mem_cons, List.not_mem_nil, false_implies, implies_true, and_true]; exact ⟨hd20, hd21⟩) ?_
      rintro _ H3 rfl h1 h2 h3
      simp (disch := first | assumption | exact Ne.symm (by assumption) | omega) only [↓ZD, ZU, ZR, Za, Zb, Zc, Zd, Ze, Zf, Zg, Zh, Zi, Zj, Zk, Zl, Zm, Zn, Zo, Zp, Zq, Zr, reduceIte, reduceCtorEq, Zs, Zt, Zu, Zv]
      simp [ptx, h50, hok]
theorem rexpr_pure {F : Base} {cs : List Value} {x : Ex'} (h : RepX F cs x) (hw : wt x ≤ 1048576) :
    PureV Tryd.prog F 10 #[.agg cs.toArray] (.tuple #[.string (bs (ptx x).1), .int .i64 (ptx x).2]) := by
  have hd := rdep_pure F h hw
  have ht := rtext_pure F h hw
  have hok := @rtx_ok x
  obtain ⟨op, k, bo, n, s1, s2, s3, d1, d2, d3, d4, d5, d6, nm, a1, n1, c1, a2, n2, c2, rfl⟩ := h.form
  refine pureV_of_svc mixed Tryd.func10 low10 (Nat.le_of_ble_eq_true rfl) (fun w0 => ?_)
  simp (disch := first | assumption | exact Ne.symm (by assumption) | omega) only [fu10, ↓ZD, ZU, ZR, Za, Zb, Zc, Zd, Ze, Zf, Zg, Zh, Zi, Zj, Zk, Zl, Zm, Zn, Zo, Zp, Zq, Zr, reduceIte, reduceCtorEq, Zs, Zt, Zu, Zv]
  refine NewB.of fun b1 hb1 hF1 => ?_
  simp (disch := first | assumption | exact Ne.symm (by assumption) | omega) only [hF1, ↓ZD, ZU, ZR, Za, Zb, Zc, Zd, Ze, Zf, Zg, Zh, Zi, Zj, Zk, Zl, Zm, Zn, Zo, Zp, Zq, Zr, reduceIte, reduceCtorEq, Zs, Zt, Zu, Zv]
  refine CallE.pure hd ?_
  by_cases h50 : 50 < depX x
  · have e1 : decide ((50 : Int) < (depX x : Int)) = true := by simp; omega
    simp (disch := first | assumption | exact Ne.symm (by assumption) | omega) only [e1, hF1, ↓ZD, ZU, ZR, Za, Zb, Zc, Zd, Ze, Zf, Zg, Zh, Zi, Zj, Zk, Zl, Zm, Zn, Zo, Zp, Zq, Zr, reduceIte, reduceCtorEq, Zs, Zt, Zu, Zv]
    simp [ptx, h50]
  · have e1 : decide ((50 : Int) < (depX x : Int)) = false := by simp; omega
    simp (disch := first | assumption | exact Ne.symm (by assumption) | omega) only [e1, hF1, ↓ZD, ZU, ZR, Za, Zb, Zc, Zd, Ze, Zf, Zg, Zh, Zi, Zj, Zk, Zl, Zm, Zn, Zo, Zp, Zq, Zr, reduceIte, reduceCtorEq, Zs, Zt, Zu, Zv]
    refine CallE.pure ht ?_
    cases hx : okX x with
    | false =>
      simp (disch := first | assumption | exact Ne.symm (by assumption) | omega) only [hF1, ↓ZD, ZU, ZR, Za, Zb, Zc, Zd, Ze, Zf, Zg, Zh, Zi, Zj, Zk, Zl, Zm, Zn, Zo, Zp, Zq, Zr, reduceIte, reduceCtorEq, Zs, Zt, Zu, Zv]
      simp [ptx, h50, hx]
    | true =>
      simp (disch := first | assumption | exact Ne.symm (by assumption) | omega) only [hF1, ↓ZD, ZU, ZR, Za, Zb, Zc, Zd, Ze, Zf, Zg, Zh, Zi, Zj, Zk, Zl, Zm, Zn, Zo, Zp, Zq, Zr, reduceIte, reduceCtorEq, Zs, Zt, Zu, Zv]
      simp [ptx, h50, hx, hok hx]
end Go.Proofs.YtoelfmmfjebabaaDoor
