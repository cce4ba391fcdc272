/- Layer 2: letters, digits, names. -/
import Derived.Test.YtoelfmmfjebabaaDoorLow
namespace Go.Proofs.YtoelfmmfjebabaaDoor
open Go Go.Eng
open Int renaming reduceEq → Za, reduceToNat → Zm, reduceLE → Zn, reduceLT → Zo, reduceAdd → Zp, reduceSub → Zq, reduceNeg → Zr, reducePow → Zt, reduceNegSucc → Zv
open UInt8 renaming reduceOfNat → Zb
open List renaming mapM_cons → Zc, mapM_nil → Zd
open Nat renaming reduceAdd → Ze, reduceMul → Zf, reduceMod → Zg, reduceDiv → Zh, reduceEqDiff → Zi, reduceBEq → Zj, reduceLeDiff → Zk, reduceSub → Zl, reducePow → Zs, reduceLT → Zu
set_option linter.unusedSimpArgs false
set_option linter.unusedVariables false
set_option maxRecDepth 20000

def isD (c : UInt8) : Bool := decide ((48 : Int) ≤ c.toNat) && decide ((c.toNat : Int) ≤ 57)
def isL (c : UInt8) : Bool := decide ((97 : Int) ≤ c.toNat) && decide ((c.toNat : Int) ≤ 122) || decide ((65 : Int) ≤ c.toNat) && decide ((c.toNat : Int) ≤ 90) || ((c.toNat : Int) == 95)
def isP (c : UInt8) : Bool := decide ((32 : Int) ≤ c.toNat) && decide ((c.toNat : Int) ≤ 126) && ((c.toNat : Int) != 34) && ((c.toNat : Int) != 92)
def isLD (c : UInt8) : Bool := isL c || isD c
def nameB : List UInt8 → Bool
  | [] => false
  | c :: r => isL c && r.all isLD
theorem isLD_of {c : UInt8} (h : isL c = true) : isLD c = true := by simp [isLD, h]
theorem isL_notD {c : UInt8} (h : isL c = true) : isD c = false := by
  simp only [isL, isD, Bool.or_eq_true, Bool.and_eq_true, decide_eq_true_eq, beq_iff_eq, Bool.and_eq_false_iff, decide_eq_false_iff_not] at h ⊢
  omega
theorem nameB_all {s : List UInt8} : nameB s = (!s.isEmpty && !isD (s.getD 0 0) && s.all isLD) := by
  cases s with
  | nil => rfl
  | cons c r =>
    simp only [nameB, List.isEmpty_cons, Bool.not_false, Bool.true_and, List.getD_cons_zero, List.all_cons]
    cases h : isL c with
    | true => simp [isLD, h, isL_notD h]
    | false => cases h2 : isD c <;> simp [isLD, h, h2]
theorem getD_get {s : List UInt8} {i : Nat} (h : i < s.length) : s[i]? = some (s.getD i 0) := by
  rw [List.getD_eq_getElem?_getD, List.getElem?_eq_getElem h]; rfl
theorem all_not {p : UInt8 → Bool} {s : List UInt8} {i : Nat} (h : i < s.length) (hp : p (s.getD i 0) = false) : s.all p = false := by
  rw [List.all_eq_false]; exact ⟨_, List.mem_of_getElem? (getD_get h), by rw [hp]; simp⟩
theorem take_snocB {s : List UInt8} {i : Nat} (h : i < s.length) : s.take (i + 1) = s.take i ++ [s.getD i 0] := by
  rw [List.take_succ_eq_append_getElem h]; congr; simp [h]
theorem all_snoc {p : UInt8 → Bool} {s : List UInt8} {i : Nat} (h : i < s.length) : (s.take (i + 1)).all p = ((s.take i).all p && p (s.getD i 0)) := by
  rw [take_snocB h, List.all_append]; simp

theorem nameB_snoc {l : List UInt8} {x : UInt8} (h : nameB l = true) : nameB (l ++ [x]) = isLD x := by
  cases l with
  | nil => cases h
  | cons c r =>
    simp only [nameB, List.cons_append, List.all_append, Bool.and_eq_true] at h ⊢
    rw [h.1, h.2]; simp
theorem nameB_bad {s : List UInt8} {i : Nat} (h : i < s.length) (h1 : isL (s.getD i 0) = false) (h2 : i = 0 ∨ isD (s.getD i 0) = false) : nameB s = false := by
  rcases h2 with rfl | h2
  · cases s with
    | nil => rfl
    | cons c r => rw [List.getD_cons_zero] at h1; simp [nameB, h1]
  · rw [nameB_all, all_not (p := isLD) h (by simp only [isLD, h1, h2]; rfl), Bool.and_false]
theorem nameB_next {s : List UInt8} {i : Nat} (h : i < s.length) (ha : i = 0 ∨ nameB (s.take i) = true) (hc : isL (s.getD i 0) = true ∨ (i ≠ 0 ∧ isD (s.getD i 0) = true)) : nameB (s.take (i + 1)) = true := by
  rw [take_snocB h]
  rcases ha with rfl | ha
  · rcases hc with hc | hc
    · rw [List.take_zero, List.nil_append, nameB, hc]; rfl
    · exact absurd rfl hc.1
  · rw [nameB_snoc ha, isLD]
    rcases hc with hc | hc
    · rw [hc]; rfl
    · rw [hc.2, Bool.or_true]

theorem letter_pure (F : Base) (c : UInt8) : PureV Tryd.prog F 47 #[.int .u8 c.toNat] (.bool (isL c)) := by
  refine pureV_of_svc mixed Tryd.func47 low47 (Nat.le_of_ble_eq_true rfl) (fun w0 => ?_)
  simp (disch := first | assumption | exact Ne.symm (by assumption) | omega) only [fu47, ↓ZD, ZU, ZR, Za, Zb, Zc, Zd, Ze, Zf, Zg, Zh, Zi, Zj, Zk, Zl, Zm, Zn, Zo, Zp, Zq, Zr, reduceIte, reduceCtorEq, Zs, Zt, Zu, Zv]
  rfl
theorem digit_pure (F : Base) (c : UInt8) : PureV Tryd.prog F 48 #[.int .u8 c.toNat] (.bool (isD c)) := by
  refine pureV_of_svc mixed Tryd.func48 low48 (Nat.le_of_ble_eq_true rfl) (fun w0 => ?_)
  simp (disch := first | assumption | exact Ne.symm (by assumption) | omega) only [fu48, ↓ZD, ZU, ZR, Za, Zb, Zc, Zd, Ze, Zf, Zg, Zh, Zi, Zj, Zk, Zl, Zm, Zn, Zo, Zp, Zq, Zr, reduceIte, reduceCtorEq, Zs, Zt, Zu, Zv]
  rfl
theorem rletter_pure (F : Base) (c : UInt8) : PureV Tryd.prog F 55 #[.int .u8 c.toNat] (.bool (isL c)) := by
  refine pureV_of_svc mixed Tryd.func55 low55 (Nat.le_of_ble_eq_true rfl) (fun w0 => ?_)
  simp (disch := first | assumption | exact Ne.symm (by assumption) | omega) only [fu55, ↓ZD, ZU, ZR, Za, Zb, Zc, Zd, Ze, Zf, Zg, Zh, Zi, Zj, Zk, Zl, Zm, Zn, Zo, Zp, Zq, Zr, reduceIte, reduceCtorEq, Zs, Zt, Zu, Zv]
  rfl
theorem rdigit_pure (F : Base) (c : UInt8) : PureV Tryd.prog F 54 #[.int .u8 c.toNat] (.bool (isD c)) := by
  refine pureV_of_svc mixed Tryd.func54 low54 (Nat.le_of_ble_eq_true rfl) (fun w0 => ?_)
  simp (disch := first | assumption | exact Ne.symm (by assumption) | omega) only [fu54, ↓ZD, ZU, ZR, Za, Zb, Zc, Zd, Ze, Zf, Zg, Zh, Zi, Zj, Zk, Zl, Zm, Zn, Zo, Zp, Zq, Zr, reduceIte, reduceCtorEq, Zs, Zt, Zu, Zv]
  rfl
theorem plain_pure (F : Base) (c : UInt8) : PureV Tryd.prog F 61 #[.int .u8 c.toNat] (.bool (isP c)) := by
  refine pureV_of_svc mixed Tryd.func61 low61 (Nat.le_of_ble_eq_true rfl) (fun w0 => ?_)
  simp (disch := first | assumption | exact Ne.symm (by assumption) | omega) only [fu61, ↓ZD, ZU, ZR, Za, Zb, Zc, Zd, Ze, Zf, Zg, Zh, Zi, Zj, Zk, Zl, Zm, Zn, Zo, Zp, Zq, Zr, reduceIte, reduceCtorEq, Zs, Zt, Zu, Zv]
  rfl
theorem name_pure (F : Base) (s : List UInt8) (hs : s.length ≤ 9223372036854775807) : PureV Tryd.prog F 28 #[.string (bs s)] (.bool (nameB s)) := by
  refine pureV_of_svc mixed Tryd.func28 low28 (Nat.le_of_ble_eq_true rfl) (fun w0 => ?_)
  simp (disch := first | assumption | exact Ne.symm (by assumption) | omega) only [fu28, ↓ZD, ZU, ZR, Za, Zb, Zc, Zd, Ze, Zf, Zg, Zh, Zi, Zj, Zk, Zl, Zm, Zn, Zo, Zp, Zq, Zr, reduceIte, reduceCtorEq, Zs, Zt, Zu, Zv]
  refine LoopL.inv (α := Nat) (fun i => i ≤ s.length ∧ (i = 0 ∨ nameB (s.take i) = true))
    (fun i => [(0, some (.string (bs s))), (5, some (.int .i64 s.length)), (6, some (.int .i64 i))]) (fun i => []) (fun i => s.length - i) 0 ⟨Nat.zero_le _, .inl rfl⟩ ?_ ?_ ?_
  · simp only [Le_nil, Le_cons]
    simp (disch := first | assumption | exact Ne.symm (by assumption) | omega) only [↓ZD, ZU, ZR, Za, Zb, Zc, Zd, Ze, Zf, Zg, Zh, Zi, Zj, Zk, Zl, Zm, Zn, Zo, Zp, Zq, Zr, reduceIte, reduceCtorEq, Zs, Zt, Zu, Zv]
  · simp only [HLe_nil]
  · rintro i ⟨hi, ha⟩
    by_cases hlt : i < s.length
    · have hd : decide ((i : Int) < (s.length : Int)) = true := by simp; omega
      simp (disch := first | assumption | exact Ne.symm (by assumption) | omega) only [hd, Int.toNat_natCast, ↓ZD, ZU, ZR, Za, Zb, Zc, Zd, Ze, Zf, Zg, Zh, Zi, Zj, Zk, Zl, Zm, Zn, Zo, Zp, Zq, Zr, reduceIte, reduceCtorEq, Zs, Zt, Zu, Zv]
      refine conj.of (by omega) ?_
      simp (disch := first | assumption | exact Ne.symm (by assumption) | omega) only [hd, Int.toNat_natCast, ↓ZD, ZU, ZR, Za, Zb, Zc, Zd, Ze, Zf, Zg, Zh, Zi, Zj, Zk, Zl, Zm, Zn, Zo, Zp, Zq, Zr, reduceIte, reduceCtorEq, Zs, Zt, Zu, Zv]
      refine CallE.pure (letter_pure F _) ?_
      simp (disch := first | assumption | exact Ne.symm (by assumption) | omega) only [hd, Int.toNat_natCast, ↓ZD, ZU, ZR, Za, Zb, Zc, Zd, Ze, Zf, Zg, Zh, Zi, Zj, Zk, Zl, Zm, Zn, Zo, Zp, Zq, Zr, reduceIte, reduceCtorEq, Zs, Zt, Zu, Zv]
      refine conj.of (fun _ => by omega) ?_
      simp (disch := first | assumption | exact Ne.symm (by assumption) | omega) only [hd, Int.toNat_natCast, ↓ZD, ZU, ZR, Za, Zb, Zc, Zd, Ze, Zf, Zg, Zh, Zi, Zj, Zk, Zl, Zm, Zn, Zo, Zp, Zq, Zr, reduceIte, reduceCtorEq, Zs, Zt, Zu, Zv]
      refine CallQ.of _ (fun _ => (digit_pure F _).up) ?_
      simp (disch := first | assumption | exact Ne.symm (by assumption) | omega) only [hd, Int.toNat_natCast, ↓ZD, ZU, ZR, Za, Zb, Zc, Zd, Ze, Zf, Zg, Zh, Zi, Zj, Zk, Zl, Zm, Zn, Zo, Zp, Zq, Zr, reduceIte, reduceCtorEq, Zs, Zt, Zu, Zv]
      refine ⟨fun hc => ?_, fun hc => ?_⟩
      · simp only [Bool.and_eq_true, Bool.or_eq_true, Bool.not_eq_true', beq_iff_eq] at hc
        have h2 : i = 0 ∨ isD (s.getD i 0) = false := hc.2.imp (fun h => by omega) id
        rw [nameB_bad hlt hc.1 h2]
      · simp only [Bool.and_eq_false_iff, Bool.or_eq_false_iff, Bool.not_eq_false', beq_eq_false_iff_ne] at hc
        have h2 := nameB_next hlt ha (hc.imp id fun h => ⟨by omega, h.2⟩)
        refine invK.on (i + 1) (⟨by omega, .inr h2⟩) (by omega) (by (simp only [Le_nil, Le_cons]; simp (disch := first | assumption | exact Ne.symm (by assumption) | omega) only [↓ZD, ZU, ZR, Za, Zb, Zc, Zd, Ze, Zf, Zg, Zh, Zi, Zj, Zk, Zl, Zm, Zn, Zo, Zp, Zq, Zr, reduceIte, reduceCtorEq, Zs, Zt, Zu, Zv]; try trivial)) (by (simp only [HLe_nil, HLe_cons]; try (simp (disch := first | assumption | exact Ne.symm (by assumption) | omega) only [↓ZD, ZU, ZR, Za, Zb, Zc, Zd, Ze, Zf, Zg, Zh, Zi, Zj, Zk, Zl, Zm, Zn, Zo, Zp, Zq, Zr, reduceIte, reduceCtorEq, Zs, Zt, Zu, Zv])))
    · have hd : decide ((i : Int) < (s.length : Int)) = false := by simp; omega
      have : i = s.length := by omega
      subst this
      simp (disch := first | assumption | exact Ne.symm (by assumption) | omega) only [hd, ↓ZD, ZU, ZR, Za, Zb, Zc, Zd, Ze, Zf, Zg, Zh, Zi, Zj, Zk, Zl, Zm, Zn, Zo, Zp, Zq, Zr, reduceIte, reduceCtorEq, Zs, Zt, Zu, Zv]
      rw [List.take_length] at ha
      rcases ha with ha | ha
      · rw [List.eq_nil_of_length_eq_zero ha]; rfl
      · rw [ha]
        cases s with
        | nil => cases ha
        | cons c r => rfl
theorem rname_pure (F : Base) (s : List UInt8) (hs : s.length ≤ 9223372036854775807) : PureV Tryd.prog F 37 #[.string (bs s)] (.bool (nameB s)) := by
  refine pureV_of_svc mixed Tryd.func37 low37 (Nat.le_of_ble_eq_true rfl) (fun w0 => ?_)
  simp (disch := first | assumption | exact Ne.symm (by assumption) | omega) only [fu37, ↓ZD, ZU, ZR, Za, Zb, Zc, Zd, Ze, Zf, Zg, Zh, Zi, Zj, Zk, Zl, Zm, Zn, Zo, Zp, Zq, Zr, reduceIte, reduceCtorEq, Zs, Zt, Zu, Zv]
  refine conj.of (fun h => by have := beq_eq_false_iff_ne.mp h; omega) ?_
  simp (disch := first | assumption | exact Ne.symm (by assumption) | omega) only [Int.toNat_zero, ↓ZD, ZU, ZR, Za, Zb, Zc, Zd, Ze, Zf, Zg, Zh, Zi, Zj, Zk, Zl, Zm, Zn, Zo, Zp, Zq, Zr, reduceIte, reduceCtorEq, Zs, Zt, Zu, Zv]
  refine CallQ.of _ (fun _ => (rdigit_pure F _).up) ?_
  simp (disch := first | assumption | exact Ne.symm (by assumption) | omega) only [↓ZD, ZU, ZR, Za, Zb, Zc, Zd, Ze, Zf, Zg, Zh, Zi, Zj, Zk, Zl, Zm, Zn, Zo, Zp, Zq, Zr, reduceIte, reduceCtorEq, Zs, Zt, Zu, Zv]
  refine ⟨fun hc => ?_, fun hc => ?_⟩
  · simp only [Bool.or_eq_true, beq_iff_eq] at hc
    rcases hc with hc | hc
    · rw [List.eq_nil_of_length_eq_zero (l := s) (by omega)]; rfl
    · rw [nameB_all, hc]; simp
  · simp only [Bool.or_eq_false_iff, beq_eq_false_iff_ne] at hc
    obtain ⟨hc1, hc2⟩ := hc
    refine LoopL.inv (fun (i : Nat) => i ≤ s.length ∧ (s.take i).all isLD = true) (fun i => [(0, some (.string (bs s))), (3, some (.int .i64 i))]) (fun i => []) (fun i => s.length - i) (0) (⟨Nat.zero_le _, rfl⟩) (by (simp only [Le_nil, Le_cons]; simp (disch := first | assumption | exact Ne.symm (by assumption) | omega) only [↓ZD, ZU, ZR, Za, Zb, Zc, Zd, Ze, Zf, Zg, Zh, Zi, Zj, Zk, Zl, Zm, Zn, Zo, Zp, Zq, Zr, reduceIte, reduceCtorEq, Zs, Zt, Zu, Zv]; try trivial)) (by (simp only [HLe_nil, HLe_cons]; try (simp (disch := first | assumption | exact Ne.symm (by assumption) | omega) only [↓ZD, ZU, ZR, Za, Zb, Zc, Zd, Ze, Zf, Zg, Zh, Zi, Zj, Zk, Zl, Zm, Zn, Zo, Zp, Zq, Zr, reduceIte, reduceCtorEq, Zs, Zt, Zu, Zv]))) ?_
    rintro i ⟨hi, ha⟩
    by_cases hlt : i < s.length
    · have hd : decide ((i : Int) < (s.length : Int)) = true := by simp; omega
      simp (disch := first | assumption | exact Ne.symm (by assumption) | omega) only [hd, Int.toNat_natCast, ↓ZD, ZU, ZR, Za, Zb, Zc, Zd, Ze, Zf, Zg, Zh, Zi, Zj, Zk, Zl, Zm, Zn, Zo, Zp, Zq, Zr, reduceIte, reduceCtorEq, Zs, Zt, Zu, Zv]
      refine conj.of (by omega) ?_
      simp (disch := first | assumption | exact Ne.symm (by assumption) | omega) only [hd, Int.toNat_natCast, ↓ZD, ZU, ZR, Za, Zb, Zc, Zd, Ze, Zf, Zg, Zh, Zi, Zj, Zk, Zl, Zm, Zn, Zo, Zp, Zq, Zr, reduceIte, reduceCtorEq, Zs, Zt, Zu, Zv]
      refine CallE.pure (rletter_pure F _) ?_
      simp (disch := first | assumption | exact Ne.symm (by assumption) | omega) only [hd, Int.toNat_natCast, ↓ZD, ZU, ZR, Za, Zb, Zc, Zd, Ze, Zf, Zg, Zh, Zi, Zj, Zk, Zl, Zm, Zn, Zo, Zp, Zq, Zr, reduceIte, reduceCtorEq, Zs, Zt, Zu, Zv]
      refine conj.of (fun _ => by omega) ?_
      simp (disch := first | assumption | exact Ne.symm (by assumption) | omega) only [hd, Int.toNat_natCast, ↓ZD, ZU, ZR, Za, Zb, Zc, Zd, Ze, Zf, Zg, Zh, Zi, Zj, Zk, Zl, Zm, Zn, Zo, Zp, Zq, Zr, reduceIte, reduceCtorEq, Zs, Zt, Zu, Zv]
      refine CallQ.of _ (fun _ => (rdigit_pure F _).up) ?_
      simp (disch := first | assumption | exact Ne.symm (by assumption) | omega) only [hd, Int.toNat_natCast, ↓ZD, ZU, ZR, Za, Zb, Zc, Zd, Ze, Zf, Zg, Zh, Zi, Zj, Zk, Zl, Zm, Zn, Zo, Zp, Zq, Zr, reduceIte, reduceCtorEq, Zs, Zt, Zu, Zv]
      refine ⟨fun hc => ?_, fun hc => ?_⟩
      · simp only [Bool.and_eq_true, Bool.not_eq_true'] at hc
        rw [nameB_all, all_not (p := isLD) hlt (by simp only [isLD, hc.1, hc.2]; rfl), Bool.and_false]
      · refine invK.on (i + 1) (⟨by omega, by rw [all_snoc hlt, ha, isLD]; revert hc; cases isL (s.getD i 0) <;> cases isD (s.getD i 0) <;> simp⟩) (by omega) (by (simp only [Le_nil, Le_cons]; simp (disch := first | assumption | exact Ne.symm (by assumption) | omega) only [↓ZD, ZU, ZR, Za, Zb, Zc, Zd, Ze, Zf, Zg, Zh, Zi, Zj, Zk, Zl, Zm, Zn, Zo, Zp, Zq, Zr, reduceIte, reduceCtorEq, Zs, Zt, Zu, Zv]; try trivial)) (by (simp only [HLe_nil, HLe_cons]; try (simp (disch := first | assumption | exact Ne.symm (by assumption) | omega) only [↓ZD, ZU, ZR, Za, Zb, Zc, Zd, Ze, Zf, Zg, Zh, Zi, Zj, Zk, Zl, Zm, Zn, Zo, Zp, Zq, Zr, reduceIte, reduceCtorEq, Zs, Zt, Zu, Zv])))
    · have hd : decide ((i : Int) < (s.length : Int)) = false := by simp; omega
      have : i = s.length := by omega
      subst this
      rw [List.take_length] at ha
      simp (disch := first | assumption | exact Ne.symm (by assumption) | omega) only [hd, ↓ZD, ZU, ZR, Za, Zb, Zc, Zd, Ze, Zf, Zg, Zh, Zi, Zj, Zk, Zl, Zm, Zn, Zo, Zp, Zq, Zr, reduceIte, reduceCtorEq, Zs, Zt, Zu, Zv]
      rw [nameB_all, ha, hc2]
      cases s with
      | nil => exact absurd rfl hc1
      | cons c r => rfl
end Go.Proofs.YtoelfmmfjebabaaDoor
