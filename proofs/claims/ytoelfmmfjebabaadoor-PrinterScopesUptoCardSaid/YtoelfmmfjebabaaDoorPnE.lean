/- Layer 10: entities' names and literals, told; those of the reference; how many an operator has. -/
import Derived.Test.YtoelfmmfjebabaaDoorPnD
namespace Go.Proofs.YtoelfmmfjebabaaDoor
open Go Go.Eng
open Int renaming reduceEq → Za, reduceToNat → Zm, reduceLE → Zn, reduceLT → Zo, reduceAdd → Zp, reduceSub → Zq, reduceNeg → Zr, reducePow → Zt, reduceNegSucc → Zv
open UInt8 renaming reduceOfNat → Zb
open List renaming mapM_cons → Zc, mapM_nil → Zd
open Nat renaming reduceAdd → Ze, reduceMul → Zf, reduceMod → Zg, reduceDiv → Zh, reduceEqDiff → Zi, reduceBEq → Zj, reduceLeDiff → Zk, reduceSub → Zl, reducePow → Zs, reduceLT → Zu
set_option linter.unusedSimpArgs false
set_option linter.unusedVariables false
set_option maxRecDepth 20000

structure LV where
  kind : Int
  bo : Bool
  n : Int
  tx : Str
  ty : Str
  id : Str
def LV.cells (v : LV) (u1 u2 : Value) : List Value := [.int .i64 v.kind, .bool v.bo, .int .i64 v.n, .string (bs v.tx), .string (bs v.ty), .string (bs v.id), u1, u2]
def uidT (ty id : Str) : Str := ty ++ (cc ++ quote id)
def litT (v : LV) : Str := if v.kind = 1 then (if v.bo then [116, 114, 117, 101] else [102, 97, 108, 115, 101]) else if v.kind = 2 then shows v.n else if v.kind = 3 then quote v.tx else if v.kind = 4 then uidT v.ty v.id else []
def litOk (v : LV) : Bool := decide (v.kind = 1) || (decide (v.kind = 2) && decide (0 ≤ v.n)) || decide (v.kind = 3) || (decide (v.kind = 4) && okPath v.ty)
/-- Texts of a size. -/
def Sm (s : Str) : Prop := s.length ≤ 1048576
theorem uid_wr (F : Base) (hg : HasM F) (b : Nat) (s0 : Str) (bad : Bool) (ty id : Str) (hl : s0.length + (uidT ty id).length ≤ 100000000000000) (h1 : Sm ty) (h2 : Sm id) :
    Wr F 42 [.pointer (some ⟨b, 0, none⟩), .agg #[.string (bs ty), .string (bs id)]] b s0 bad (s0 ++ uidT ty id) (bad || !okPath ty) (.tuple #[]) := by
  unfold Sm at h1 h2
  have hl' : s0.length + ty.length + (cc.length + (quote id).length) ≤ 100000000000000 := by simpa [uidT, Nat.add_assoc] using hl
  refine Wr.of_svc mixed Tryd.func42 low42 (Nat.le_of_ble_eq_true rfl) fun H0 hp w0 hw0 => ?_
  simp (disch := first | assumption | exact Ne.symm (by assumption) | omega) only [fu42, ↓ZD, ZU, ZR, Za, Zb, Zc, Zd, Ze, Zf, Zg, Zh, Zi, Zj, Zk, Zl, Zm, Zn, Zo, Zp, Zq, Zr, reduceIte, reduceCtorEq, Zs, Zt, Zu, Zv]
  refine NewB.of fun b3 hb3 hF3 => ?_
  simp (disch := first | assumption | exact Ne.symm (by assumption) | omega) only [hF3, ↓ZD, ZU, ZR, Za, Zb, Zc, Zd, Ze, Zf, Zg, Zh, Zi, Zj, Zk, Zl, Zm, Zn, Zo, Zp, Zq, Zr, reduceIte, reduceCtorEq, Zs, Zt, Zu, Zv]
  refine CallE.wr [(b3, .cells #[.string (bs ty), .string (bs id)] 23 (0, 0))] H0 (path_wr _ (hg.mono le_up) b s0 bad ty (by omega) (by omega)) hp (by simp +contextual) (by simp) (by simpa using hb3) ?_
  intro H1 hp1 hd1
  simp only [List.forall_mem_cons, List.not_mem_nil, false_implies, implies_true, and_true] at hd1
  simp (disch := first | assumption | exact Ne.symm (by assumption) | omega) only [hF3, ↓ZD, ZU, ZR, Za, Zb, Zc, Zd, Ze, Zf, Zg, Zh, Zi, Zj, Zk, Zl, Zm, Zn, Zo, Zp, Zq, Zr, reduceIte, reduceCtorEq, Zs, Zt, Zu, Zv]
  refine CallE.pure (quote_pure F id (by omega)) ?_
  simp (disch := first | assumption | exact Ne.symm (by assumption) | omega) only [hF3, ↓ZD, ZU, ZR, Za, Zb, Zc, Zd, Ze, Zf, Zg, Zh, Zi, Zj, Zk, Zl, Zm, Zn, Zo, Zp, Zq, Zr, reduceIte, reduceCtorEq, Zs, Zt, Zu, Zv]
  refine NewB.of fun b1 hb1 hF1 => ?_
  simp only [List.forall_mem_cons, List.mem_cons, forall_eq_or_imp] at hb1
  simp (disch := first | assumption | exact Ne.symm (by assumption) | omega) only [hF1, hF3, ↓ZD, ZU, ZR, Za, Zb, Zc, Zd, Ze, Zf, Zg, Zh, Zi, Zj, Zk, Zl, Zm, Zn, Zo, Zp, Zq, Zr, reduceIte, reduceCtorEq, Zs, Zt, Zu, Zv]
  refine CallE.wr [(b1, .cells #[.string (bs [58, 58]), .string (bs (quote id))] 9 (0, 0))] H1 (put2 _ b b1 9 (s0 ++ ty) cc (quote id) _ (by simp [rdObj, hF1, lk, cc]) (by simp only [List.length_append]; omega)) hp1 (by simp +contextual) (by simp) (by simpa using hb1.2) ?_
  intro H2 hp2 hd2
  simp (disch := first | assumption | exact Ne.symm (by assumption) | omega) only [↓ZD, ZU, ZR, Za, Zb, Zc, Zd, Ze, Zf, Zg, Zh, Zi, Zj, Zk, Zl, Zm, Zn, Zo, Zp, Zq, Zr, reduceIte, reduceCtorEq, Zs, Zt, Zu, Zv]
  exact ⟨H2, by simp +contextual, by unfold uidT; rw [← List.append_assoc]; exact hp2⟩
/-- One text, told of a value that says nothing else. -/
theorem shows_len {a : Int} (ha : I64 a) : (shows a).length ≤ 21 := by
  unfold I64 at ha
  unfold shows
  split
  · have := digs_len' (n := (-a).toNat) (by omega)
    simp only [List.length_cons]; omega
  · have := digs_len' (n := a.toNat) (by omega)
    omega
theorem lit_wr (F : Base) (hg : HasM F) (b : Nat) (s0 : Str) (bad : Bool) (v : LV) (u1 u2 : Value) (hl : s0.length + (litT v).length ≤ 100000000000000) (h1 : Sm v.ty) (h2 : Sm v.id) (h3 : Sm v.tx) (hn : I64 v.n) :
    Wr F 24 [.pointer (some ⟨b, 0, none⟩), .agg (v.cells u1 u2).toArray] b s0 bad (s0 ++ litT v) (bad || !litOk v) (.tuple #[]) := by
  have hq := quote_pure F v.tx (Nat.le_trans h3 (by decide))
  have hs := show_pure F v.n hn
  obtain ⟨k, bo, n, tx, ty, id⟩ := v
  simp only at h1 h2 h3 hn hq hs
  refine Wr.of_svc mixed Tryd.func24 low24 (Nat.le_of_ble_eq_true rfl) fun H0 hp w0 hw0 => ?_
  unfold LV.cells
  by_cases k1 : k = 1
  · have e1 : (k == 1) = true := by simpa using k1
    have hl1 : s0.length + (if bo then ([116, 114, 117, 101] : Str) else [102, 97, 108, 115, 101]).length ≤ 100000000000000 := by simpa [litT, k1] using hl
    simp (disch := first | assumption | exact Ne.symm (by assumption) | omega) only [fu24, ↓ZD, ZU, ZR, Za, Zb, Zc, Zd, Ze, Zf, Zg, Zh, Zi, Zj, Zk, Zl, Zm, Zn, Zo, Zp, Zq, Zr, reduceIte, reduceCtorEq, Zs, Zt, Zu, Zv]
    refine NewB.of fun b3 hb3 hF3 => ?_
    simp (disch := first | assumption | exact Ne.symm (by assumption) | omega) only [hF3, e1, ↓ZD, ZU, ZR, Za, Zb, Zc, Zd, Ze, Zf, Zg, Zh, Zi, Zj, Zk, Zl, Zm, Zn, Zo, Zp, Zq, Zr, reduceIte, reduceCtorEq, Zs, Zt, Zu, Zv]
    cases bo with
    | true =>
      simp (disch := first | assumption | exact Ne.symm (by assumption) | omega) only [hF3, ↓ZD, ZU, ZR, Za, Zb, Zc, Zd, Ze, Zf, Zg, Zh, Zi, Zj, Zk, Zl, Zm, Zn, Zo, Zp, Zq, Zr, reduceIte, reduceCtorEq, Zs, Zt, Zu, Zv]
      refine NewB.of fun b1 hb1 hF1 => ?_
      simp only [List.forall_mem_cons, List.mem_cons, forall_eq_or_imp] at hb1
      simp (disch := first | assumption | exact Ne.symm (by assumption) | omega) only [hF1, hF3, ↓ZD, ZU, ZR, Za, Zb, Zc, Zd, Ze, Zf, Zg, Zh, Zi, Zj, Zk, Zl, Zm, Zn, Zo, Zp, Zq, Zr, reduceIte, reduceCtorEq, Zs, Zt, Zu, Zv]
      refine CallE.wr [(b1, .cells #[.string (bs [116, 114, 117, 101])] 9 (0, 0))] H0 (put1 _ b b1 9 s0 [116, 114, 117, 101] _ (by simp [rdObj, hF1, lk]) (by simpa using hl1)) hp (by simp +contextual) (by simp) (by simpa using hb1.2) ?_
      intro H2 hp2 hd2
      simp (disch := first | assumption | exact Ne.symm (by assumption) | omega) only [↓ZD, ZU, ZR, Za, Zb, Zc, Zd, Ze, Zf, Zg, Zh, Zi, Zj, Zk, Zl, Zm, Zn, Zo, Zp, Zq, Zr, reduceIte, reduceCtorEq, Zs, Zt, Zu, Zv]
      exact ⟨H2, by simp +contextual, by simpa [litT, litOk, k1] using hp2⟩
    | false =>
      simp (disch := first | assumption | exact Ne.symm (by assumption) | omega) only [hF3, ↓ZD, ZU, ZR, Za, Zb, Zc, Zd, Ze, Zf, Zg, Zh, Zi, Zj, Zk, Zl, Zm, Zn, Zo, Zp, Zq, Zr, reduceIte, reduceCtorEq, Zs, Zt, Zu, Zv]
      refine NewB.of fun b1 hb1 hF1 => ?_
      simp only [List.forall_mem_cons, List.mem_cons, forall_eq_or_imp] at hb1
      simp (disch := first | assumption | exact Ne.symm (by assumption) | omega) only [hF1, hF3, ↓ZD, ZU, ZR, Za, Zb, Zc, Zd, Ze, Zf, Zg, Zh, Zi, Zj, Zk, Zl, Zm, Zn, Zo, Zp, Zq, Zr, reduceIte, reduceCtorEq, Zs, Zt, Zu, Zv]
      refine CallE.wr [(b1, .cells #[.string (bs [102, 97, 108, 115, 101])] 9 (0, 0))] H0 (put1 _ b b1 9 s0 [102, 97, 108, 115, 101] _ (by simp [rdObj, hF1, lk]) (by simpa using hl1)) hp (by simp +contextual) (by simp) (by simpa using hb1.2) ?_
      intro H2 hp2 hd2
      simp (disch := first | assumption | exact Ne.symm (by assumption) | omega) only [↓ZD, ZU, ZR, Za, Zb, Zc, Zd, Ze, Zf, Zg, Zh, Zi, Zj, Zk, Zl, Zm, Zn, Zo, Zp, Zq, Zr, reduceIte, reduceCtorEq, Zs, Zt, Zu, Zv]
      exact ⟨H2, by simp +contextual, by simpa [litT, litOk, k1] using hp2⟩
  by_cases k2 : k = 2
  · have e1 : (k == 1) = false := by simpa using k1
    have e2 : (k == 2) = true := by simpa using k2
    have hl1 : s0.length + (shows n).length ≤ 100000000000000 := by simpa [litT, k2] using hl
    simp (disch := first | assumption | exact Ne.symm (by assumption) | omega) only [fu24, ↓ZD, ZU, ZR, Za, Zb, Zc, Zd, Ze, Zf, Zg, Zh, Zi, Zj, Zk, Zl, Zm, Zn, Zo, Zp, Zq, Zr, reduceIte, reduceCtorEq, Zs, Zt, Zu, Zv]
    refine NewB.of fun b3 hb3 hF3 => ?_
    simp (disch := first | assumption | exact Ne.symm (by assumption) | omega) only [hF3, e1, e2, ↓ZD, ZU, ZR, Za, Zb, Zc, Zd, Ze, Zf, Zg, Zh, Zi, Zj, Zk, Zl, Zm, Zn, Zo, Zp, Zq, Zr, reduceIte, reduceCtorEq, Zs, Zt, Zu, Zv]
    refine CallE.wr [(b3, .cells #[.int .i64 k, .bool bo, .int .i64 n, .string (bs tx), .string (bs ty), .string (bs id), u1, u2] 27 (0, 0))] H0 (must_wr _ b s0 bad _) hp (by simp +contextual) (by simp) (by simpa using hb3) ?_
    intro H1 hp1 hd1
    simp only [List.forall_mem_cons, List.not_mem_nil, false_implies, implies_true, and_true] at hd1
    simp (disch := first | assumption | exact Ne.symm (by assumption) | omega) only [hF3, ↓ZD, ZU, ZR, Za, Zb, Zc, Zd, Ze, Zf, Zg, Zh, Zi, Zj, Zk, Zl, Zm, Zn, Zo, Zp, Zq, Zr, reduceIte, reduceCtorEq, Zs, Zt, Zu, Zv]
    refine CallE.pure hs ?_
    simp (disch := first | assumption | exact Ne.symm (by assumption) | omega) only [hF3, ↓ZD, ZU, ZR, Za, Zb, Zc, Zd, Ze, Zf, Zg, Zh, Zi, Zj, Zk, Zl, Zm, Zn, Zo, Zp, Zq, Zr, reduceIte, reduceCtorEq, Zs, Zt, Zu, Zv]
    refine NewB.of fun b1 hb1 hF1 => ?_
    simp only [List.forall_mem_cons, List.mem_cons, forall_eq_or_imp] at hb1
    simp (disch := first | assumption | exact Ne.symm (by assumption) | omega) only [hF1, hF3, ↓ZD, ZU, ZR, Za, Zb, Zc, Zd, Ze, Zf, Zg, Zh, Zi, Zj, Zk, Zl, Zm, Zn, Zo, Zp, Zq, Zr, reduceIte, reduceCtorEq, Zs, Zt, Zu, Zv]
    refine CallE.wr [(b1, .cells #[.string (bs (shows n))] 9 (0, 0))] H1 (put1 _ b b1 9 s0 (shows n) _ (by simp [rdObj, hF1, lk]) hl1) hp1 (by simp +contextual) (by simp) (by simpa using hb1.2) ?_
    intro H2 hp2 hd2
    simp (disch := first | assumption | exact Ne.symm (by assumption) | omega) only [↓ZD, ZU, ZR, Za, Zb, Zc, Zd, Ze, Zf, Zg, Zh, Zi, Zj, Zk, Zl, Zm, Zn, Zo, Zp, Zq, Zr, reduceIte, reduceCtorEq, Zs, Zt, Zu, Zv]
    refine ⟨H2, by simp +contextual, ?_⟩
    have e : litOk ⟨k, bo, n, tx, ty, id⟩ = decide (0 ≤ n) := by simp [litOk, k2]
    rw [e]
    simpa [litT, k2] using hp2
  by_cases k3 : k = 3
  · have e1 : (k == 1) = false := by simpa using k1
    have e2 : (k == 2) = false := by simpa using k2
    have e3 : (k == 3) = true := by simpa using k3
    have hl1 : s0.length + (quote tx).length ≤ 100000000000000 := by simpa [litT, k3] using hl
    simp (disch := first | assumption | exact Ne.symm (by assumption) | omega) only [fu24, ↓ZD, ZU, ZR, Za, Zb, Zc, Zd, Ze, Zf, Zg, Zh, Zi, Zj, Zk, Zl, Zm, Zn, Zo, Zp, Zq, Zr, reduceIte, reduceCtorEq, Zs, Zt, Zu, Zv]
    refine NewB.of fun b3 hb3 hF3 => ?_
    simp (disch := first | assumption | exact Ne.symm (by assumption) | omega) only [hF3, e1, e2, e3, ↓ZD, ZU, ZR, Za, Zb, Zc, Zd, Ze, Zf, Zg, Zh, Zi, Zj, Zk, Zl, Zm, Zn, Zo, Zp, Zq, Zr, reduceIte, reduceCtorEq, Zs, Zt, Zu, Zv]
    refine CallE.pure hq ?_
    simp (disch := first | assumption | exact Ne.symm (by assumption) | omega) only [hF3, ↓ZD, ZU, ZR, Za, Zb, Zc, Zd, Ze, Zf, Zg, Zh, Zi, Zj, Zk, Zl, Zm, Zn, Zo, Zp, Zq, Zr, reduceIte, reduceCtorEq, Zs, Zt, Zu, Zv]
    refine NewB.of fun b1 hb1 hF1 => ?_
    simp only [List.forall_mem_cons, List.mem_cons, forall_eq_or_imp] at hb1
    simp (disch := first | assumption | exact Ne.symm (by assumption) | omega) only [hF1, hF3, ↓ZD, ZU, ZR, Za, Zb, Zc, Zd, Ze, Zf, Zg, Zh, Zi, Zj, Zk, Zl, Zm, Zn, Zo, Zp, Zq, Zr, reduceIte, reduceCtorEq, Zs, Zt, Zu, Zv]
    refine CallE.wr [(b1, .cells #[.string (bs (quote tx))] 9 (0, 0))] H0 (put1 _ b b1 9 s0 (quote tx) _ (by simp [rdObj, hF1, lk]) hl1) hp (by simp +contextual) (by simp) (by simpa using hb1.2) ?_
    intro H2 hp2 hd2
    simp (disch := first | assumption | exact Ne.symm (by assumption) | omega) only [↓ZD, ZU, ZR, Za, Zb, Zc, Zd, Ze, Zf, Zg, Zh, Zi, Zj, Zk, Zl, Zm, Zn, Zo, Zp, Zq, Zr, reduceIte, reduceCtorEq, Zs, Zt, Zu, Zv]
    exact ⟨H2, by simp +contextual, by simpa [litT, litOk, k3] using hp2⟩
  by_cases k4 : k = 4
  · have e1 : (k == 1) = false := by simpa using k1
    have e2 : (k == 2) = false := by simpa using k2
    have e3 : (k == 3) = false := by simpa using k3
    have e4 : (k == 4) = true := by simpa using k4
    have hl1 : s0.length + (uidT ty id).length ≤ 100000000000000 := by simpa [litT, k4] using hl
    simp (disch := first | assumption | exact Ne.symm (by assumption) | omega) only [fu24, ↓ZD, ZU, ZR, Za, Zb, Zc, Zd, Ze, Zf, Zg, Zh, Zi, Zj, Zk, Zl, Zm, Zn, Zo, Zp, Zq, Zr, reduceIte, reduceCtorEq, Zs, Zt, Zu, Zv]
    refine NewB.of fun b3 hb3 hF3 => ?_
    simp (disch := first | assumption | exact Ne.symm (by assumption) | omega) only [hF3, e1, e2, e3, e4, ↓ZD, ZU, ZR, Za, Zb, Zc, Zd, Ze, Zf, Zg, Zh, Zi, Zj, Zk, Zl, Zm, Zn, Zo, Zp, Zq, Zr, reduceIte, reduceCtorEq, Zs, Zt, Zu, Zv]
    refine CallE.wr [(b3, .cells #[.int .i64 k, .bool bo, .int .i64 n, .string (bs tx), .string (bs ty), .string (bs id), u1, u2] 27 (0, 0))] H0 (uid_wr _ (hg.mono le_up) b s0 bad ty id hl1 h1 h2) hp (by simp +contextual) (by simp) (by simpa using hb3) ?_
    intro H1 hp1 hd1
    simp (disch := first | assumption | exact Ne.symm (by assumption) | omega) only [↓ZD, ZU, ZR, Za, Zb, Zc, Zd, Ze, Zf, Zg, Zh, Zi, Zj, Zk, Zl, Zm, Zn, Zo, Zp, Zq, Zr, reduceIte, reduceCtorEq, Zs, Zt, Zu, Zv]
    exact ⟨H1, by simp +contextual, by simpa [litT, litOk, k4] using hp1⟩
  have e1 : (k == 1) = false := by simpa using k1
  have e2 : (k == 2) = false := by simpa using k2
  have e3 : (k == 3) = false := by simpa using k3
  have e4 : (k == 4) = false := by simpa using k4
  simp (disch := first | assumption | exact Ne.symm (by assumption) | omega) only [fu24, ↓ZD, ZU, ZR, Za, Zb, Zc, Zd, Ze, Zf, Zg, Zh, Zi, Zj, Zk, Zl, Zm, Zn, Zo, Zp, Zq, Zr, reduceIte, reduceCtorEq, Zs, Zt, Zu, Zv]
  refine NewB.of fun b3 hb3 hF3 => ?_
  simp (disch := first | assumption | exact Ne.symm (by assumption) | omega) only [hF3, e1, e2, e3, e4, ↓ZD, ZU, ZR, Za, Zb, Zc, Zd, Ze, Zf, Zg, Zh, Zi, Zj, Zk, Zl, Zm, Zn, Zo, Zp, Zq, Zr, reduceIte, reduceCtorEq, Zs, Zt, Zu, Zv]
  refine CallE.wr [(b3, .cells #[.int .i64 k, .bool bo, .int .i64 n, .string (bs tx), .string (bs ty), .string (bs id), u1, u2] 27 (0, 0))] H0 (must_wr _ b s0 bad false) hp (by simp +contextual) (by simp) (by simpa using hb3) ?_
  intro H1 hp1 hd1
  simp (disch := first | assumption | exact Ne.symm (by assumption) | omega) only [↓ZD, ZU, ZR, Za, Zb, Zc, Zd, Ze, Zf, Zg, Zh, Zi, Zj, Zk, Zl, Zm, Zn, Zo, Zp, Zq, Zr, reduceIte, reduceCtorEq, Zs, Zt, Zu, Zv]
  exact ⟨H1, by simp +contextual, by simpa [litT, litOk, k1, k2, k3, k4] using hp1⟩
end Go.Proofs.YtoelfmmfjebabaaDoor
