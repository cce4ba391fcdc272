/- Layer 2: a byte in quotes; the reference's quotes. -/
import Derived.Test.YtoelfmmfjebabaaDoorTxA
namespace Go.Proofs.YtoelfmmfjebabaaDoor
open Go Go.Eng
open Int renaming reduceEq → Za, reduceToNat → Zm, reduceLE → Zn, reduceLT → Zo, reduceAdd → Zp, reduceSub → Zq, reduceNeg → Zr, reducePow → Zt, reduceNegSucc → Zv
open UInt8 renaming reduceOfNat → Zb
open List renaming mapM_cons → Zc, mapM_nil → Zd
open Nat renaming reduceAdd → Ze, reduceMul → Zf, reduceMod → Zg, reduceDiv → Zh, reduceEqDiff → Zi, reduceBEq → Zj, reduceLeDiff → Zk, reduceSub → Zl, reducePow → Zs, reduceLT → Zu
set_option linter.unusedSimpArgs false
set_option linter.unusedVariables false
set_option maxRecDepth 20000

def hexL : List UInt8 := [48, 49, 50, 51, 52, 53, 54, 55, 56, 57, 97, 98, 99, 100, 101, 102]
/-- A byte, quoted. -/
def q1 (c : UInt8) : List UInt8 := if isP c then [c] else if ((c.toNat : Int) == 34 || (c.toNat : Int) == 92) then [92, c] else [92, 120, hexL.getD (c.toNat / 16) 0, hexL.getD (c.toNat % 16) 0]
def quote (s : List UInt8) : List UInt8 := 34 :: (s.flatMap q1 ++ [34])
theorem q1_len (c : UInt8) : (q1 c).length ≤ 4 := by
  unfold q1
  split
  · simp
  · split <;> simp
theorem flat_len : ∀ s : List UInt8, (s.flatMap q1).length ≤ 4 * s.length
  | [] => Nat.le_refl _
  | c :: s => by
    have := flat_len s
    have := q1_len c
    simp only [List.flatMap_cons, List.length_append, List.length_cons]; omega
theorem u8_lt (c : UInt8) : c.toNat < 256 := c.toNat_lt
theorem shr4 (c : UInt8) : ((c.toNat : Int).fdiv 16) = ((c.toNat / 16 : Nat) : Int) := by
  rw [Int.fdiv_eq_ediv_of_nonneg _ (by decide)]; omega
theorem and15 (c : UInt8) : (BitVec.ofInt 8 (c.toNat : Int) &&& BitVec.ofInt 8 15).toNat = c.toNat % 16 := by
  revert c
  have : ∀ n : Nat, n < 256 → (BitVec.ofInt 8 (n : Int) &&& BitVec.ofInt 8 15).toNat = n % 16 := by decide +kernel
  exact fun c => this _ (u8_lt c)
theorem one_pure (F : Base) (c : UInt8) : PureV Tryd.prog F 50 #[.int .u8 c.toNat] (.string (bs (q1 c))) := by
  refine pureV_of_svc mixed Tryd.func50 low50 (Nat.le_of_ble_eq_true rfl) (fun w0 => ?_)
  simp (disch := first | assumption | exact Ne.symm (by assumption) | omega) only [fu50, ↓ZD, ZU, ZR, Za, Zb, Zc, Zd, Ze, Zf, Zg, Zh, Zi, Zj, Zk, Zl, Zm, Zn, Zo, Zp, Zq, Zr, reduceIte, reduceCtorEq, Zs, Zt, Zu, Zv]
  refine CallE.pure (plain_pure F c) ?_
  simp (disch := first | assumption | exact Ne.symm (by assumption) | omega) only [↓ZD, ZU, ZR, Za, Zb, Zc, Zd, Ze, Zf, Zg, Zh, Zi, Zj, Zk, Zl, Zm, Zn, Zo, Zp, Zq, Zr, reduceIte, reduceCtorEq, Zs, Zt, Zu, Zv]
  unfold q1
  refine ⟨fun hp => ?_, fun hp => ⟨fun hq => ?_, fun hq => ?_⟩⟩
  · refine NewB.of fun b1 hb1 hF1 => ?_
    simp (disch := first | assumption | exact Ne.symm (by assumption) | omega) only [hF1, hp, ↓ZD, ZU, ZR, Za, Zb, Zc, Zd, Ze, Zf, Zg, Zh, Zi, Zj, Zk, Zl, Zm, Zn, Zo, Zp, Zq, Zr, reduceIte, reduceCtorEq, Zs, Zt, Zu, Zv]
  · refine NewB.of fun b1 hb1 hF1 => ?_
    simp (disch := first | assumption | exact Ne.symm (by assumption) | omega) only [hF1, hp, hq, ↓ZD, ZU, ZR, Za, Zb, Zc, Zd, Ze, Zf, Zg, Zh, Zi, Zj, Zk, Zl, Zm, Zn, Zo, Zp, Zq, Zr, reduceIte, reduceCtorEq, Zs, Zt, Zu, Zv]
  · rw [shr4]
    have h1 := u8_lt c
    refine conj.of (by omega) ?_
    simp (disch := first | assumption | exact Ne.symm (by assumption) | omega) only [and15, ↓ZD, ZU, ZR, Za, Zb, Zc, Zd, Ze, Zf, Zg, Zh, Zi, Zj, Zk, Zl, Zm, Zn, Zo, Zp, Zq, Zr, reduceIte, reduceCtorEq, Zs, Zt, Zu, Zv]
    refine conj.of (by omega) ?_
    simp (disch := first | assumption | exact Ne.symm (by assumption) | omega) only [↓ZD, ZU, ZR, Za, Zb, Zc, Zd, Ze, Zf, Zg, Zh, Zi, Zj, Zk, Zl, Zm, Zn, Zo, Zp, Zq, Zr, reduceIte, reduceCtorEq, Zs, Zt, Zu, Zv]
    refine NewB.of fun b1 hb1 hF1 => ?_
    simp (disch := first | assumption | exact Ne.symm (by assumption) | omega) only [hF1, hp, hq, Int.toNat_natCast, ↓ZD, ZU, ZR, Za, Zb, Zc, Zd, Ze, Zf, Zg, Zh, Zi, Zj, Zk, Zl, Zm, Zn, Zo, Zp, Zq, Zr, reduceIte, reduceCtorEq, Zs, Zt, Zu, Zv]
    rfl
theorem slice1 {l : List UInt8} {k : Nat} (h : k < l.length) : (l.take (k + 1)).drop k = [l.getD k 0] := by
  rw [take_snocB h, List.drop_left' (by rw [List.length_take]; omega)]
theorem idxOf_at {l : List UInt8} {c : UInt8} {i : Nat} (h1 : ∀ j, j < i → l.getD j 0 ≠ c) (h2 : i < l.length) (h3 : l.getD i 0 = c) : l.idxOf c = i := by
  induction l generalizing i with
  | nil => simp at h2
  | cons x r ih =>
    cases i with
    | zero => rw [List.getD_cons_zero] at h3; simp [List.idxOf_cons, h3]
    | succ i =>
      have h0 := h1 0 (by omega)
      rw [List.getD_cons_zero] at h0
      rw [List.idxOf_cons, ih (i := i) (fun j hj => by have := h1 (j + 1) (by omega); rwa [List.getD_cons_succ] at this) (by simp only [List.length_cons] at h2; omega) (by rwa [List.getD_cons_succ] at h3)]
      have : (x == c) = false := by simpa using h0
      rw [this]; rfl
theorem idxOf_none {l : List UInt8} {c : UInt8} (h1 : ∀ j, j < l.length → l.getD j 0 ≠ c) : l.idxOf c = l.length := by
  apply List.idxOf_eq_length
  intro hc
  obtain ⟨i, hi, rfl⟩ := List.getElem_of_mem hc
  have := h1 i hi
  rw [List.getD_eq_getElem?_getD, List.getElem?_eq_getElem hi] at this
  exact this rfl
theorem flat_snoc {s : List UInt8} {i : Nat} (h : i < s.length) : (s.take (i + 1)).flatMap q1 = (s.take i).flatMap q1 ++ q1 (s.getD i 0) := by
  rw [take_snocB h, List.flatMap_append]; simp
theorem rquote_pure (F : Base) (s : List UInt8) (hs : s.length ≤ 1000000000000) : PureV Tryd.prog F 21 #[.string (bs s)] (.string (bs (quote s))) := by
  refine pureV_of_svc mixed Tryd.func21 low21 (Nat.le_of_ble_eq_true rfl) (fun w0 => ?_)
  simp (disch := first | assumption | exact Ne.symm (by assumption) | omega) only [fu21, ↓ZD, ZU, ZR, Za, Zb, Zc, Zd, Ze, Zf, Zg, Zh, Zi, Zj, Zk, Zl, Zm, Zn, Zo, Zp, Zq, Zr, reduceIte, reduceCtorEq, Zs, Zt, Zu, Zv]
  refine LoopL.inv (fun (i : Nat) => i ≤ s.length) (fun i => [(0, some (.string (bs s))), (3, some (.string (bs (34 :: (s.take i).flatMap q1)))), (4, some (.int .i64 i))]) (fun i => []) (fun i => s.length - i) (0) (Nat.zero_le _) (by (simp only [Le_nil, Le_cons]; simp (disch := first | assumption | exact Ne.symm (by assumption) | omega) only [↓ZD, ZU, ZR, Za, Zb, Zc, Zd, Ze, Zf, Zg, Zh, Zi, Zj, Zk, Zl, Zm, Zn, Zo, Zp, Zq, Zr, reduceIte, reduceCtorEq, Zs, Zt, Zu, Zv]; try trivial)) (by (simp only [HLe_nil, HLe_cons]; try (simp (disch := first | assumption | exact Ne.symm (by assumption) | omega) only [↓ZD, ZU, ZR, Za, Zb, Zc, Zd, Ze, Zf, Zg, Zh, Zi, Zj, Zk, Zl, Zm, Zn, Zo, Zp, Zq, Zr, reduceIte, reduceCtorEq, Zs, Zt, Zu, Zv]))) ?_
  rintro i hi
  have hlen := flat_len (s.take i)
  have hq := q1_len (s.getD i 0)
  rw [List.length_take] at hlen
  by_cases hlt : i < s.length
  · have hd : decide ((i : Int) < (s.length : Int)) = true := by simp; omega
    have hs1 := flat_snoc hlt
    have hx := u8_lt (s.getD i 0)
    simp (disch := first | assumption | exact Ne.symm (by assumption) | omega) only [hd, Int.toNat_natCast, ↓ZD, ZU, ZR, Za, Zb, Zc, Zd, Ze, Zf, Zg, Zh, Zi, Zj, Zk, Zl, Zm, Zn, Zo, Zp, Zq, Zr, reduceIte, reduceCtorEq, Zs, Zt, Zu, Zv]
    refine conj.of (by omega) ?_
    simp (disch := first | assumption | exact Ne.symm (by assumption) | omega) only [hd, Int.toNat_natCast, ↓ZD, ZU, ZR, Za, Zb, Zc, Zd, Ze, Zf, Zg, Zh, Zi, Zj, Zk, Zl, Zm, Zn, Zo, Zp, Zq, Zr, reduceIte, reduceCtorEq, Zs, Zt, Zu, Zv]
    refine ⟨fun hc => ?_, fun hc => ⟨fun hc2 => ?_, fun hc2 => ⟨fun hc3 => ?_, fun hc3 => ?_⟩⟩⟩
    · refine conj.of (by omega) ?_
      simp (disch := first | assumption | exact Ne.symm (by assumption) | omega) only [↓ZD, ZU, ZR, Za, Zb, Zc, Zd, Ze, Zf, Zg, Zh, Zi, Zj, Zk, Zl, Zm, Zn, Zo, Zp, Zq, Zr, reduceIte, reduceCtorEq, Zs, Zt, Zu, Zv]
      have e : s.getD i 0 = 34 := UInt8.toNat_inj.mp (by have := beq_iff_eq.mp hc; exact Int.ofNat.inj this)
      have hq1 : q1 (s.getD i 0) = [92, 34] := by rw [e]; decide
      rw [hq1] at hs1
      refine invK.on (i + 1) (by omega) (by omega) (by (simp only [Le_nil, Le_cons]; simp (disch := first | assumption | exact Ne.symm (by assumption) | omega) only [hs1, ↓ZD, ZU, ZR, Za, Zb, Zc, Zd, Ze, Zf, Zg, Zh, Zi, Zj, Zk, Zl, Zm, Zn, Zo, Zp, Zq, Zr, reduceIte, reduceCtorEq, Zs, Zt, Zu, Zv]; try trivial)) (by (simp only [HLe_nil, HLe_cons]; try (simp (disch := first | assumption | exact Ne.symm (by assumption) | omega) only [hs1, ↓ZD, ZU, ZR, Za, Zb, Zc, Zd, Ze, Zf, Zg, Zh, Zi, Zj, Zk, Zl, Zm, Zn, Zo, Zp, Zq, Zr, reduceIte, reduceCtorEq, Zs, Zt, Zu, Zv])))
    · refine conj.of (by omega) ?_
      simp (disch := first | assumption | exact Ne.symm (by assumption) | omega) only [↓ZD, ZU, ZR, Za, Zb, Zc, Zd, Ze, Zf, Zg, Zh, Zi, Zj, Zk, Zl, Zm, Zn, Zo, Zp, Zq, Zr, reduceIte, reduceCtorEq, Zs, Zt, Zu, Zv]
      have e : s.getD i 0 = 92 := UInt8.toNat_inj.mp (by have := beq_iff_eq.mp hc2; exact Int.ofNat.inj this)
      have hq1 : q1 (s.getD i 0) = [92, 92] := by rw [e]; decide
      rw [hq1] at hs1
      refine invK.on (i + 1) (by omega) (by omega) (by (simp only [Le_nil, Le_cons]; simp (disch := first | assumption | exact Ne.symm (by assumption) | omega) only [hs1, ↓ZD, ZU, ZR, Za, Zb, Zc, Zd, Ze, Zf, Zg, Zh, Zi, Zj, Zk, Zl, Zm, Zn, Zo, Zp, Zq, Zr, reduceIte, reduceCtorEq, Zs, Zt, Zu, Zv]; try trivial)) (by (simp only [HLe_nil, HLe_cons]; try (simp (disch := first | assumption | exact Ne.symm (by assumption) | omega) only [hs1, ↓ZD, ZU, ZR, Za, Zb, Zc, Zd, Ze, Zf, Zg, Zh, Zi, Zj, Zk, Zl, Zm, Zn, Zo, Zp, Zq, Zr, reduceIte, reduceCtorEq, Zs, Zt, Zu, Zv])))
    · have hq1 : q1 (s.getD i 0) = [s.getD i 0] := by
        unfold q1 isP
        rw [hc3]
        have h1 : ((s.getD i 0).toNat : Int) != 34 := by simpa using hc
        have h2 : ((s.getD i 0).toNat : Int) != 92 := by simpa using hc2
        rw [h1, h2]; rfl
      rw [hq1] at hs1
      have hsl := slice1 hlt
      have e1 : ((i : Int) + 1).toNat = i + 1 := by omega
      refine conj.of (by omega) ?_
      simp (disch := first | assumption | exact Ne.symm (by assumption) | omega) only [Int.toNat_natCast, e1, hsl, ↓ZD, ZU, ZR, Za, Zb, Zc, Zd, Ze, Zf, Zg, Zh, Zi, Zj, Zk, Zl, Zm, Zn, Zo, Zp, Zq, Zr, reduceIte, reduceCtorEq, Zs, Zt, Zu, Zv]
      refine conj.of (by omega) ?_
      simp (disch := first | assumption | exact Ne.symm (by assumption) | omega) only [↓ZD, ZU, ZR, Za, Zb, Zc, Zd, Ze, Zf, Zg, Zh, Zi, Zj, Zk, Zl, Zm, Zn, Zo, Zp, Zq, Zr, reduceIte, reduceCtorEq, Zs, Zt, Zu, Zv]
      refine invK.on (i + 1) (by omega) (by omega) (by (simp only [Le_nil, Le_cons]; simp (disch := first | assumption | exact Ne.symm (by assumption) | omega) only [hs1, ↓ZD, ZU, ZR, Za, Zb, Zc, Zd, Ze, Zf, Zg, Zh, Zi, Zj, Zk, Zl, Zm, Zn, Zo, Zp, Zq, Zr, reduceIte, reduceCtorEq, Zs, Zt, Zu, Zv]; try trivial)) (by (simp only [HLe_nil, HLe_cons]; try (simp (disch := first | assumption | exact Ne.symm (by assumption) | omega) only [hs1, ↓ZD, ZU, ZR, Za, Zb, Zc, Zd, Ze, Zf, Zg, Zh, Zi, Zj, Zk, Zl, Zm, Zn, Zo, Zp, Zq, Zr, reduceIte, reduceCtorEq, Zs, Zt, Zu, Zv])))
    · have hq1 : q1 (s.getD i 0) = [92, 120, hexL.getD ((s.getD i 0).toNat / 16) 0, hexL.getD ((s.getD i 0).toNat % 16) 0] := by
        unfold q1 isP
        rw [hc3, hc, hc2]; rfl
      rw [hq1] at hs1
      have e1 : (((s.getD i 0).toNat : Int) / 16).toNat = (s.getD i 0).toNat / 16 := by omega
      have e2 : (((s.getD i 0).toNat : Int) / 16 + 1).toNat = (s.getD i 0).toNat / 16 + 1 := by omega
      have e3 : (((s.getD i 0).toNat : Int) % 16).toNat = (s.getD i 0).toNat % 16 := by omega
      have e4 : (((s.getD i 0).toNat : Int) % 16 + 1).toNat = (s.getD i 0).toNat % 16 + 1 := by omega
      have hl : hexL.length = 16 := rfl
      have sl1 := slice1 (l := hexL) (k := (s.getD i 0).toNat / 16) (by omega)
      have sl2 := slice1 (l := hexL) (k := (s.getD i 0).toNat % 16) (by omega)
      unfold hexL at sl1 sl2
      simp only [List.take_succ_cons] at sl1 sl2
      refine conj.of (by omega) ?_
      simp (disch := first | assumption | exact Ne.symm (by assumption) | omega) only [e1, e2, sl1, ↓ZD, ZU, ZR, Za, Zb, Zc, Zd, Ze, Zf, Zg, Zh, Zi, Zj, Zk, Zl, Zm, Zn, Zo, Zp, Zq, Zr, reduceIte, reduceCtorEq, Zs, Zt, Zu, Zv]
      refine conj.of (by omega) ?_
      simp (disch := first | assumption | exact Ne.symm (by assumption) | omega) only [e3, e4, sl2, ↓ZD, ZU, ZR, Za, Zb, Zc, Zd, Ze, Zf, Zg, Zh, Zi, Zj, Zk, Zl, Zm, Zn, Zo, Zp, Zq, Zr, reduceIte, reduceCtorEq, Zs, Zt, Zu, Zv]
      refine conj.of (by omega) ?_
      simp (disch := first | assumption | exact Ne.symm (by assumption) | omega) only [e3, e4, sl2, ↓ZD, ZU, ZR, Za, Zb, Zc, Zd, Ze, Zf, Zg, Zh, Zi, Zj, Zk, Zl, Zm, Zn, Zo, Zp, Zq, Zr, reduceIte, reduceCtorEq, Zs, Zt, Zu, Zv]
      unfold hexL at hs1
      refine invK.on (i + 1) (by omega) (by omega) (by (simp only [Le_nil, Le_cons]; simp (disch := first | assumption | exact Ne.symm (by assumption) | omega) only [hs1, ↓ZD, ZU, ZR, Za, Zb, Zc, Zd, Ze, Zf, Zg, Zh, Zi, Zj, Zk, Zl, Zm, Zn, Zo, Zp, Zq, Zr, reduceIte, reduceCtorEq, Zs, Zt, Zu, Zv]; try trivial)) (by (simp only [HLe_nil, HLe_cons]; try (simp (disch := first | assumption | exact Ne.symm (by assumption) | omega) only [hs1, ↓ZD, ZU, ZR, Za, Zb, Zc, Zd, Ze, Zf, Zg, Zh, Zi, Zj, Zk, Zl, Zm, Zn, Zo, Zp, Zq, Zr, reduceIte, reduceCtorEq, Zs, Zt, Zu, Zv])))
  · have hd : decide ((i : Int) < (s.length : Int)) = false := by simp; omega
    have : i = s.length := by omega
    subst this
    simp (disch := first | assumption | exact Ne.symm (by assumption) | omega) only [hd, ↓ZD, ZU, ZR, Za, Zb, Zc, Zd, Ze, Zf, Zg, Zh, Zi, Zj, Zk, Zl, Zm, Zn, Zo, Zp, Zq, Zr, reduceIte, reduceCtorEq, Zs, Zt, Zu, Zv]
    refine conj.of (by omega) ?_
    simp (disch := first | assumption | exact Ne.symm (by assumption) | omega) only [List.take_length, ↓ZD, ZU, ZR, Za, Zb, Zc, Zd, Ze, Zf, Zg, Zh, Zi, Zj, Zk, Zl, Zm, Zn, Zo, Zp, Zq, Zr, reduceIte, reduceCtorEq, Zs, Zt, Zu, Zv]
    rfl
end Go.Proofs.YtoelfmmfjebabaaDoor
