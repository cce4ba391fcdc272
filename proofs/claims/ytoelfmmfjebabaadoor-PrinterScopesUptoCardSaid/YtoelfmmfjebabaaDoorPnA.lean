/- Layer 1 as layer 10 reaches it: a number's digits, of the program and of the reference. -/
import Derived.Test.YtoelfmmfjebabaaDoorTxI
import Derived.Test.YtoelfmmfjebabaaDoorTxD
namespace Go.Proofs.YtoelfmmfjebabaaDoor
open Go Go.Eng
open Int renaming reduceEq → Za, reduceToNat → Zm, reduceLE → Zn, reduceLT → Zo, reduceAdd → Zp, reduceSub → Zq, reduceNeg → Zr, reducePow → Zt, reduceNegSucc → Zv
open UInt8 renaming reduceOfNat → Zb
open List renaming mapM_cons → Zc, mapM_nil → Zd
open Nat renaming reduceAdd → Ze, reduceMul → Zf, reduceMod → Zg, reduceDiv → Zh, reduceEqDiff → Zi, reduceBEq → Zj, reduceLeDiff → Zk, reduceSub → Zl, reducePow → Zs, reduceLT → Zu
set_option linter.unusedSimpArgs false
set_option linter.unusedVariables false
set_option maxRecDepth 20000

def I64 (a : Int) : Prop := -9223372036854775808 ≤ a ∧ a ≤ 9223372036854775807
def size (a : Int) : Int := if a < 0 then -a else a
theorem size_pure (F : Base) (a : Int) (ha : I64 a) : PureV Tryd.prog F 57 #[.int .i64 a] (.int .u64 (size a)) := by
  refine pureV_of_svc mixed Tryd.func57 low57 (Nat.le_of_ble_eq_true rfl) (fun w0 => ?_)
  simp (disch := first | assumption | exact Ne.symm (by assumption) | omega) only [fu57, ↓ZD, ZU, ZR, Za, Zb, Zc, Zd, Ze, Zf, Zg, Zh, Zi, Zj, Zk, Zl, Zm, Zn, Zo, Zp, Zq, Zr, reduceIte, reduceCtorEq, Zs, Zt, Zu, Zv]
  unfold I64 at ha
  unfold size
  refine ⟨fun h => ?_, fun h => ?_⟩ <;> simp only [decide_eq_true_eq, decide_eq_false_iff_not] at h
  · rw [if_pos h, wrap_u64, wrap_u64]; congr 1; omega
  · rw [if_neg h, wrap_u64]; congr 1; omega
theorem size_bd (a : Int) (h : I64 a) : 0 ≤ size a ∧ size a ≤ 9223372036854775808 := by
  unfold I64 at h; unfold size; split <;> omega
def digs (n : Nat) : List UInt8 := if n < 10 then [UInt8.ofNat (48 + n)] else digs (n / 10) ++ [UInt8.ofNat (48 + n % 10)]
termination_by n
decreasing_by omega
theorem digs_lt {n : Nat} (h : n < 10) : digs n = [UInt8.ofNat (48 + n)] := by rw [digs, if_pos h]
theorem digs_ge {n : Nat} (h : ¬ n < 10) : digs n = digs (n / 10) ++ [UInt8.ofNat (48 + n % 10)] := by rw [digs, if_neg h]
theorem digs_len : ∀ (k n : Nat), n < 10 ^ (k + 1) → (digs n).length ≤ k + 1
  | 0, n, h => by rw [digs_lt (by omega)]; simp
  | k + 1, n, h => by
    by_cases h10 : n < 10
    · rw [digs_lt h10]; simp
    · have := digs_len k (n / 10) (by rw [Nat.pow_succ] at h; omega)
      rw [digs_ge h10]; simp; omega
theorem digs_len' {n : Nat} (h : n < 18446744073709551616) : (digs n).length ≤ 20 := digs_len 19 n (by omega)
def shows (a : Int) : List UInt8 := if a < 0 then 45 :: digs (-a).toNat else digs a.toNat

theorem dig1_pure (F : Base) (n : Nat) (h : n < 10) : PureV Tryd.prog F 62 #[.int .u64 n] (.string (bs (digs n))) := by
  have e : n = 0 ∨ n = 1 ∨ n = 2 ∨ n = 3 ∨ n = 4 ∨ n = 5 ∨ n = 6 ∨ n = 7 ∨ n = 8 ∨ n = 9 := by omega
  rw [digs_lt h]
  refine pureV_of_svc mixed Tryd.func62 low62 (Nat.le_of_ble_eq_true rfl) (fun w0 => ?_)
  rcases e with rfl | rfl | rfl | rfl | rfl | rfl | rfl | rfl | rfl | rfl <;> simp (disch := first | assumption | exact Ne.symm (by assumption) | omega) only [fu62, ↓ZD, ZU, ZR, Za, Zb, Zc, Zd, Ze, Zf, Zg, Zh, Zi, Zj, Zk, Zl, Zm, Zn, Zo, Zp, Zq, Zr, reduceIte, reduceCtorEq, Zs, Zt, Zu, Zv] <;> rfl
theorem digits_pure (F : Base) : ∀ (m n : Nat), n ≤ m → n < 18446744073709551616 → PureV Tryd.prog F 62 #[.int .u64 n] (.string (bs (digs n))) := by
  intro m
  induction m with
  | zero => intro n h _; exact dig1_pure F n (by omega)
  | succ m ih =>
    intro n h hn
    by_cases h10 : n < 10
    · exact dig1_pure F n h10
    · have h1 := ih (n / 10) (by omega) (by omega)
      have h2 := dig1_pure F (n % 10) (by omega)
      rw [digs_ge h10]
      have e1 : ((n / 10 : Nat) : Int) = (n : Int) / 10 := rfl
      have e2 : ((n % 10 : Nat) : Int) = (n : Int) % 10 := rfl
      rw [e1] at h1
      rw [e2, digs_lt (by omega)] at h2
      have hlt : decide ((n : Int) < 10) = false := by simp; omega
      refine pureV_of_svc mixed Tryd.func62 low62 (Nat.le_of_ble_eq_true rfl) (fun w0 => ?_)
      have l1 := digs_len' (n := n / 10) (by omega)
      simp (disch := first | assumption | exact Ne.symm (by assumption) | omega) only [fu62, hlt, ↓ZD, ZU, ZR, Za, Zb, Zc, Zd, Ze, Zf, Zg, Zh, Zi, Zj, Zk, Zl, Zm, Zn, Zo, Zp, Zq, Zr, reduceIte, reduceCtorEq, Zs, Zt, Zu, Zv]
      refine CallE.pure h1 ?_
      simp (disch := first | assumption | exact Ne.symm (by assumption) | omega) only [↓ZD, ZU, ZR, Za, Zb, Zc, Zd, Ze, Zf, Zg, Zh, Zi, Zj, Zk, Zl, Zm, Zn, Zo, Zp, Zq, Zr, reduceIte, reduceCtorEq, Zs, Zt, Zu, Zv]
      refine CallE.pure h2 ?_
      simp (disch := first | assumption | exact Ne.symm (by assumption) | omega) only [↓ZD, ZU, ZR, Za, Zb, Zc, Zd, Ze, Zf, Zg, Zh, Zi, Zj, Zk, Zl, Zm, Zn, Zo, Zp, Zq, Zr, reduceIte, reduceCtorEq, Zs, Zt, Zu, Zv]
      refine conj.of (by omega) ?_
      simp (disch := first | assumption | exact Ne.symm (by assumption) | omega) only [↓ZD, ZU, ZR, Za, Zb, Zc, Zd, Ze, Zf, Zg, Zh, Zi, Zj, Zk, Zl, Zm, Zn, Zo, Zp, Zq, Zr, reduceIte, reduceCtorEq, Zs, Zt, Zu, Zv]
theorem rshow_pure (F : Base) (a : Int) (ha : I64 a) : PureV Tryd.prog F 51 #[.int .i64 a] (.string (bs (shows a))) := by
  unfold I64 at ha
  unfold shows
  refine pureV_of_svc mixed Tryd.func51 low51 (Nat.le_of_ble_eq_true rfl) (fun w0 => ?_)
  by_cases h : a < 0
  · have h1 := digits_pure F _ (-a).toNat (Nat.le_refl _) (by omega)
    have e : (((-a).toNat : Nat) : Int) = -a := by omega
    rw [e] at h1
    have hd : decide (a < 0) = true := by simpa using h
    simp (disch := first | assumption | exact Ne.symm (by assumption) | omega) only [fu51, hd, ↓ZD, ZU, ZR, Za, Zb, Zc, Zd, Ze, Zf, Zg, Zh, Zi, Zj, Zk, Zl, Zm, Zn, Zo, Zp, Zq, Zr, reduceIte, reduceCtorEq, Zs, Zt, Zu, Zv]
    rw [wrap_u64, wrap_u64]
    have e2 : ((0 : Int) - a % 18446744073709551616) % 18446744073709551616 = -a := by omega
    rw [e2]
    refine CallE.pure h1 ?_
    have l1 := digs_len' (n := (-a).toNat) (by omega)
    simp (disch := first | assumption | exact Ne.symm (by assumption) | omega) only [h, ↓ZD, ZU, ZR, Za, Zb, Zc, Zd, Ze, Zf, Zg, Zh, Zi, Zj, Zk, Zl, Zm, Zn, Zo, Zp, Zq, Zr, reduceIte, reduceCtorEq, Zs, Zt, Zu, Zv]
    refine conj.of (by omega) ?_
    simp (disch := first | assumption | exact Ne.symm (by assumption) | omega) only [↓ZD, ZU, ZR, Za, Zb, Zc, Zd, Ze, Zf, Zg, Zh, Zi, Zj, Zk, Zl, Zm, Zn, Zo, Zp, Zq, Zr, reduceIte, reduceCtorEq, Zs, Zt, Zu, Zv]
    rw [if_pos h]
  · have h1 := digits_pure F _ a.toNat (Nat.le_refl _) (by omega)
    have e : ((a.toNat : Nat) : Int) = a := by omega
    rw [e] at h1
    have hd : decide (a < 0) = false := by simpa using h
    simp (disch := first | assumption | exact Ne.symm (by assumption) | omega) only [fu51, hd, ↓ZD, ZU, ZR, Za, Zb, Zc, Zd, Ze, Zf, Zg, Zh, Zi, Zj, Zk, Zl, Zm, Zn, Zo, Zp, Zq, Zr, reduceIte, reduceCtorEq, Zs, Zt, Zu, Zv]
    refine CallE.pure h1 ?_
    simp (disch := first | assumption | exact Ne.symm (by assumption) | omega) only [h, ↓ZD, ZU, ZR, Za, Zb, Zc, Zd, Ze, Zf, Zg, Zh, Zi, Zj, Zk, Zl, Zm, Zn, Zo, Zp, Zq, Zr, reduceIte, reduceCtorEq, Zs, Zt, Zu, Zv]
/-- What holds at the head of the loop of Show. -/
def showI (n : Nat) (x : Nat × Nat × List UInt8) : Prop :=
  x.2.1 + x.2.2.length = 20 ∧ x.1 ≤ n ∧ x.1 < 10 ^ x.2.1 ∧ (if x.2.2 = [] then x.1 = n else digs n = if x.1 = 0 then x.2.2 else digs x.1 ++ x.2.2)
theorem showI_0 (a : Int) (ha : I64 a) : showI (size a).toNat ((size a).toNat, 20, []) := by
  have := size_bd a ha
  refine ⟨by simp, Nat.le_refl _, ?_, by simp⟩
  show (size a).toNat < 10 ^ 20
  omega
theorem show_pure (F : Base) (a : Int) (ha : I64 a) : PureV Tryd.prog F 41 #[.int .i64 a] (.string (bs (shows a))) := by
  refine pureV_of_svc mixed Tryd.func41 low41 (Nat.le_of_ble_eq_true rfl) (fun w0 => ?_)
  simp (disch := first | assumption | exact Ne.symm (by assumption) | omega) only [fu41, ↓ZD, ZU, ZR, Za, Zb, Zc, Zd, Ze, Zf, Zg, Zh, Zi, Zj, Zk, Zl, Zm, Zn, Zo, Zp, Zq, Zr, reduceIte, reduceCtorEq, Zs, Zt, Zu, Zv]
  refine NewB.of fun b1 hb1 hF1 => ?_
  simp (disch := first | assumption | exact Ne.symm (by assumption) | omega) only [hF1, ↓ZD, ZU, ZR, Za, Zb, Zc, Zd, Ze, Zf, Zg, Zh, Zi, Zj, Zk, Zl, Zm, Zn, Zo, Zp, Zq, Zr, reduceIte, reduceCtorEq, Zs, Zt, Zu, Zv]
  refine CallE.pure (size_pure F a ha) ?_
  simp (disch := first | assumption | exact Ne.symm (by assumption) | omega) only [hF1, ↓ZD, ZU, ZR, Za, Zb, Zc, Zd, Ze, Zf, Zg, Zh, Zi, Zj, Zk, Zl, Zm, Zn, Zo, Zp, Zq, Zr, reduceIte, reduceCtorEq, Zs, Zt, Zu, Zv]
  refine LoopL.inv (α := Nat × Nat × List UInt8) (showI (size a).toNat)
    (fun x => [(0, some (.int .i64 a)), (2, some (.string (bs []))), (3, some (.pointer (some ⟨b1, 0, none⟩))), (4, some (.int .i64 x.2.1)), (5, some (.int .u64 x.1))])
    (fun x => [(b1, .cells (byteCells (List.replicate x.2.1 0 ++ x.2.2)).toArray 92 (0, 0))])
    (fun x => x.2.1) ((size a).toNat, 20, []) (showI_0 a ha) ?_ ?_ ?_
  · have := size_bd a ha
    have e : (((size a).toNat : Nat) : Int) = size a := by omega
    simp only [Le_nil, Le_cons, e]
    simp (disch := first | assumption | exact Ne.symm (by assumption) | omega) only [↓ZD, ZU, ZR, Za, Zb, Zc, Zd, Ze, Zf, Zg, Zh, Zi, Zj, Zk, Zl, Zm, Zn, Zo, Zp, Zq, Zr, reduceIte, reduceCtorEq, Zs, Zt, Zu, Zv]
  · refine ⟨by simp (disch := first | assumption | exact Ne.symm (by assumption) | omega) only [↓ZD, ZU, ZR, Za, Zb, Zc, Zd, Ze, Zf, Zg, Zh, Zi, Zj, Zk, Zl, Zm, Zn, Zo, Zp, Zq, Zr, reduceIte, reduceCtorEq, Zs, Zt, Zu, Zv]; rfl, trivial⟩
  · rintro ⟨u, i, S⟩ hI
    obtain ⟨hl, hun, hu, hd⟩ := hI
    simp only at hl hun hu hd ⊢
    have hsz := size_bd a ha
    have hdt : ((byteCells (List.replicate i 0 ++ S)).drop i).take (20 - i) = byteCells S := by
      rw [byteCells_drop, byteCells_take]; congr 1
      rw [List.drop_left' (by simp), List.take_of_length_le (by omega)]
    simp (disch := first | assumption | exact Ne.symm (by assumption) | omega) only [hF1, ↓ZD, ZU, ZR, Za, Zb, Zc, Zd, Ze, Zf, Zg, Zh, Zi, Zj, Zk, Zl, Zm, Zn, Zo, Zp, Zq, Zr, reduceIte, reduceCtorEq, Zs, Zt, Zu, Zv]
    refine ⟨fun h => ?_, fun h => ?_⟩
    · have hi : 0 < i := by
        cases i with
        | zero =>
          have : u = 0 := by simp at hu; omega
          subst this
          simp at h
        | succ j => omega
      have hi1 : (i : Int) - 1 = ((i - 1 : Nat) : Int) := by omega
      refine conj.of (by omega) ?_
      have hle : decide (i - 1 + 1 ≤ i + S.length) = true := by simp; omega
      have hst : List.take (i - 1) (byteCells (List.replicate i 0 ++ S)) ++ [Value.int IntKind.u8 (48 + (u : Int) % 10)] ++ List.drop (i - 1 + 1) (byteCells (List.replicate i 0 ++ S)) = byteCells (List.replicate (i - 1) 0 ++ (UInt8.ofNat (48 + u % 10)) :: S) := by
        have e1 : List.replicate i (0 : UInt8) = List.replicate (i - 1) 0 ++ [0] := by
          obtain ⟨j, rfl⟩ : ∃ j, i = j + 1 := ⟨i - 1, by omega⟩
          simp [List.replicate_succ']
        have t1 : (List.replicate i (0 : UInt8) ++ S).take (i - 1) = List.replicate (i - 1) 0 := by
          rw [e1, List.append_assoc]; exact List.take_left' (by simp)
        have t2 : (List.replicate i (0 : UInt8) ++ S).drop (i - 1 + 1) = S := List.drop_left' (by simp; omega)
        rw [byteCells_take, byteCells_drop, t1, t2]
        have e2 : (48 + (u : Int) % 10) = (((UInt8.ofNat (48 + u % 10)).toNat : Nat) : Int) := by
          simp only [UInt8.toNat_ofNat']; omega
        rw [e2]
        simp only [byteCells, List.map_append, List.map_cons, List.append_assoc, List.cons_append, List.nil_append]
      simp (disch := first | assumption | exact Ne.symm (by assumption) | omega) only [hF1, hi1, hle, hst, Nat.mul_one, Int.toNat_natCast, List.length_append, List.length_replicate, ↓ZD, ZU, ZR, Za, Zb, Zc, Zd, Ze, Zf, Zg, Zh, Zi, Zj, Zk, Zl, Zm, Zn, Zo, Zp, Zq, Zr, reduceIte, reduceCtorEq, Zs, Zt, Zu, Zv]
      have hp : 10 ^ i = 10 * 10 ^ (i - 1) := by
        obtain ⟨j, rfl⟩ : ∃ j, i = j + 1 := ⟨i - 1, by omega⟩
        simp [Nat.pow_succ]; omega
      refine invK.on (u / 10, i - 1, UInt8.ofNat (48 + u % 10) :: S) ⟨?_, ?_, ?_, ?_⟩ ?_ ?_ ?_
      · show i - 1 + (S.length + 1) = 20
        omega
      · show u / 10 ≤ _
        omega
      · show u / 10 < 10 ^ (i - 1)
        omega
      · show (if UInt8.ofNat (48 + u % 10) :: S = [] then _ else digs (size a).toNat = if u / 10 = 0 then UInt8.ofNat (48 + u % 10) :: S else digs (u / 10) ++ UInt8.ofNat (48 + u % 10) :: S)
        rw [if_neg (by simp)]
        have hdu : digs u ++ S = if u / 10 = 0 then UInt8.ofNat (48 + u % 10) :: S else digs (u / 10) ++ UInt8.ofNat (48 + u % 10) :: S := by
          split
          · rw [digs_lt (by omega), Nat.mod_eq_of_lt (by omega)]; rfl
          · rw [digs_ge (by omega), List.append_assoc]; rfl
        rw [← hdu]
        split at hd
        · subst hd; rename_i hS; subst hS; simp
        · split at hd
          · subst u
            exfalso
            have : i = 20 := by simp at h; omega
            have : S.length = 0 := by omega
            simp at this; contradiction
          · exact hd
      · show i - 1 < i
        omega
      · have hw : IntKind.u64.wrap ((u : Int) / 10) = ((u / 10 : Nat) : Int) := by rw [wrap_u64]; omega
        simp only [Le_nil, Le_cons, hw]
        simp (disch := first | assumption | exact Ne.symm (by assumption) | omega) only [↓ZD, ZU, ZR, Za, Zb, Zc, Zd, Ze, Zf, Zg, Zh, Zi, Zj, Zk, Zl, Zm, Zn, Zo, Zp, Zq, Zr, reduceIte, reduceCtorEq, Zs, Zt, Zu, Zv]
        rfl
      · simp only [HLe_nil, HLe_cons]
        simp (disch := first | assumption | exact Ne.symm (by assumption) | omega) only [↓ZD, ZU, ZR, Za, Zb, Zc, Zd, Ze, Zf, Zg, Zh, Zi, Zj, Zk, Zl, Zm, Zn, Zo, Zp, Zq, Zr, reduceIte, reduceCtorEq, Zs, Zt, Zu, Zv]
    · have hi20 : i ≠ 20 := by
        rintro rfl; simp at h
      refine conj.of (by omega) ?_
      have hu0 : u = 0 := by
        simp at h; exact h.2
      have hle : i + (20 - i) ≤ i + S.length := by omega
      have hn : ((20 : Int) - (i : Int)).toNat = 20 - i := by omega
      simp (disch := first | assumption | exact Ne.symm (by assumption) | omega) only [hF1, hdt, hle, hn, Nat.mul_one, Int.toNat_natCast, List.length_append, List.length_replicate, ↓ZD, ZU, ZR, Za, Zb, Zc, Zd, Ze, Zf, Zg, Zh, Zi, Zj, Zk, Zl, Zm, Zn, Zo, Zp, Zq, Zr, reduceIte, reduceCtorEq, Zs, Zt, Zu, Zv]
      have hS : S ≠ [] := by rintro rfl; simp at hl; omega
      rw [if_neg hS, if_pos hu0] at hd
      unfold shows
      unfold size at hd
      refine ⟨fun h => ?_, fun h => ?_⟩
      · refine conj.of (by omega) ?_
        simp at h
        rw [if_pos h] at hd ⊢
        rw [hd]
        simp (disch := first | assumption | exact Ne.symm (by assumption) | omega) only [↓ZD, ZU, ZR, Za, Zb, Zc, Zd, Ze, Zf, Zg, Zh, Zi, Zj, Zk, Zl, Zm, Zn, Zo, Zp, Zq, Zr, reduceIte, reduceCtorEq, Zs, Zt, Zu, Zv]
      · simp at h
        rw [if_neg (by omega)] at hd ⊢
        rw [hd]
end Go.Proofs.YtoelfmmfjebabaaDoor
