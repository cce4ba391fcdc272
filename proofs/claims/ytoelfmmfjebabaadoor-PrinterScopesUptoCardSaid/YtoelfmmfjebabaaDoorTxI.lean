/- Layer 2: names between two colons, of the reference. -/
import Derived.Test.YtoelfmmfjebabaaDoorTxH
namespace Go.Proofs.YtoelfmmfjebabaaDoor
open Go Go.Eng
open Int renaming reduceEq → Za, reduceToNat → Zm, reduceLE → Zn, reduceLT → Zo, reduceAdd → Zp, reduceSub → Zq, reduceNeg → Zr, reducePow → Zt, reduceNegSucc → Zv
open UInt8 renaming reduceOfNat → Zb
open List renaming mapM_cons → Zc, mapM_nil → Zd
open Nat renaming reduceAdd → Ze, reduceMul → Zf, reduceMod → Zg, reduceDiv → Zh, reduceEqDiff → Zi, reduceBEq → Zj, reduceLeDiff → Zk, reduceSub → Zl, reducePow → Zs, reduceLT → Zu
set_option linter.unusedSimpArgs false
set_option linter.unusedVariables false
set_option maxRecDepth 20000

theorem occ_iff (r : List UInt8) (j : Nat) : Go.Lib.occAt r cc j = true ↔ j + 1 < r.length ∧ r.getD j 0 = 58 ∧ r.getD (j + 1) 0 = 58 := by
  have e0 : r.getD j 0 = (r.drop j).getD 0 0 := drop_getD (j := 0)
  have e1 : r.getD (j + 1) 0 = (r.drop j).getD 1 0 := drop_getD
  have el : (r.drop j).length = r.length - j := List.length_drop
  unfold Go.Lib.occAt cc
  rw [e0, e1]
  generalize r.drop j = t at *
  match t, el with
  | [], el =>
    simp only [List.length_nil] at el
    constructor
    · intro h; simp [List.isPrefixOf] at h
    · rintro ⟨h, -⟩; omega
  | [a], el =>
    simp only [List.length_cons, List.length_nil] at el
    constructor
    · intro h; simp [List.isPrefixOf] at h
    · rintro ⟨h, -⟩; omega
  | a :: b :: t, el =>
    simp only [List.length_cons] at el
    simp only [List.isPrefixOf, Bool.and_true, Bool.and_eq_true, beq_iff_eq, List.getD_cons_zero, List.getD_cons_succ]
    constructor
    · rintro ⟨h1, h2⟩; exact ⟨by omega, h1.symm, h2.symm⟩
    · rintro ⟨-, h1, h2⟩; exact ⟨h1.symm, h2.symm⟩
theorem idx_at {r : List UInt8} {i : Nat} (h : Go.Lib.occAt r cc i = true) (hn : ∀ j, j < i → Go.Lib.occAt r cc j = false) : Go.Lib.index r cc = i := by
  rcases Go.Lib.index_spec r cc with ⟨h1, h2⟩ | ⟨k, h1, h2, h3, h4⟩
  · have := (occ_iff r i).mp h
    rw [h2 i (by omega)] at h; cases h
  · rcases Nat.lt_trichotomy k i with hk | hk | hk
    · rw [hn k hk] at h3; cases h3
    · rw [h1, hk]
    · have := h4 i hk
      rw [h] at this; cases this
theorem idx_no {r : List UInt8} (hn : ∀ j, Go.Lib.occAt r cc j = false) : Go.Lib.index r cc = -1 := by
  rcases Go.Lib.index_spec r cc with ⟨h1, h2⟩ | ⟨k, h1, h2, h3, h4⟩
  · exact h1
  · rw [hn k] at h3; cases h3
theorem occ_drop (s : List UInt8) (i j : Nat) : Go.Lib.occAt (s.drop i) cc j = Go.Lib.occAt s cc (i + j) := by
  unfold Go.Lib.occAt; rw [List.drop_drop]
theorem rpath_pure (F : Base) (s : List UInt8) (hs : s.length ≤ 1000000000000) : PureV Tryd.prog F 52 #[.string (bs s)] (.bool (pathB s)) := by
  refine pureV_of_svc mixed Tryd.func52 low52 (Nat.le_of_ble_eq_true rfl) (fun w0 => ?_)
  simp (disch := first | assumption | exact Ne.symm (by assumption) | omega) only [fu52, ↓ZD, ZU, ZR, Za, Zb, Zc, Zd, Ze, Zf, Zg, Zh, Zi, Zj, Zk, Zl, Zm, Zn, Zo, Zp, Zq, Zr, reduceIte, reduceCtorEq, Zs, Zt, Zu, Zv]
  refine LoopL.inv (α := Nat × Nat) (fun x => x.1 ≤ s.length ∧ x.1 ≤ x.2 + 1 ∧ x.2 ≤ s.length ∧ pathB s = pathB (s.drop x.1) ∧ ∀ j, x.1 ≤ j → j < x.2 → Go.Lib.occAt s cc j = false)
    (fun x => [(0, some (.string (bs s))), (3, some (.int .i64 x.1)), (4, some (.int .i64 x.2))]) (fun x => []) (fun x => s.length - x.2) (0, 0) ⟨by simp, by simp, by simp, rfl, fun j h1 h2 => absurd h2 (by simp)⟩ (by (simp only [Le_nil, Le_cons]; simp (disch := first | assumption | exact Ne.symm (by assumption) | omega) only [↓ZD, ZU, ZR, Za, Zb, Zc, Zd, Ze, Zf, Zg, Zh, Zi, Zj, Zk, Zl, Zm, Zn, Zo, Zp, Zq, Zr, reduceIte, reduceCtorEq, Zs, Zt, Zu, Zv]; try trivial)) (by (simp only [HLe_nil, HLe_cons]; try (simp (disch := first | assumption | exact Ne.symm (by assumption) | omega) only [↓ZD, ZU, ZR, Za, Zb, Zc, Zd, Ze, Zf, Zg, Zh, Zi, Zj, Zk, Zl, Zm, Zn, Zo, Zp, Zq, Zr, reduceIte, reduceCtorEq, Zs, Zt, Zu, Zv]))) ?_
  rintro ⟨from_, i⟩ ⟨h1, h2, h3, h4, h5⟩
  simp only at h1 h2 h3 h4 h5
  by_cases hlt : i + 1 < s.length
  · have hd : decide ((i : Int) + 1 < (s.length : Int)) = true := by simp; omega
    have e1 : ((i : Int) + 1).toNat = i + 1 := by omega
    simp (disch := first | assumption | exact Ne.symm (by assumption) | omega) only [hd, Int.toNat_natCast, e1, ↓ZD, ZU, ZR, Za, Zb, Zc, Zd, Ze, Zf, Zg, Zh, Zi, Zj, Zk, Zl, Zm, Zn, Zo, Zp, Zq, Zr, reduceIte, reduceCtorEq, Zs, Zt, Zu, Zv]
    refine conj.of (fun _ => by omega) ?_
    simp (disch := first | assumption | exact Ne.symm (by assumption) | omega) only [hd, Int.toNat_natCast, e1, ↓ZD, ZU, ZR, Za, Zb, Zc, Zd, Ze, Zf, Zg, Zh, Zi, Zj, Zk, Zl, Zm, Zn, Zo, Zp, Zq, Zr, reduceIte, reduceCtorEq, Zs, Zt, Zu, Zv]
    refine conj.of (fun _ => by omega) ?_
    simp (disch := first | assumption | exact Ne.symm (by assumption) | omega) only [hd, Int.toNat_natCast, e1, ↓ZD, ZU, ZR, Za, Zb, Zc, Zd, Ze, Zf, Zg, Zh, Zi, Zj, Zk, Zl, Zm, Zn, Zo, Zp, Zq, Zr, reduceIte, reduceCtorEq, Zs, Zt, Zu, Zv]
    refine ⟨fun hc => ?_, fun hc => ?_⟩
    · simp only [Bool.and_eq_true, decide_eq_true_eq, beq_iff_eq] at hc
      obtain ⟨⟨hc1, hc2⟩, hc3⟩ := hc
      have a0 : s.getD i 0 = 58 := UInt8.toNat_inj.mp (by show _ = 58; omega)
      have a1 : s.getD (i + 1) 0 = 58 := UInt8.toNat_inj.mp (by show _ = 58; omega)
      have ho : Go.Lib.occAt s cc i = true := (occ_iff s i).mpr ⟨hlt, a0, a1⟩
      have hle : from_ ≤ i := by omega
      have hx : Go.Lib.index (s.drop from_) cc = ((i - from_ : Nat) : Int) := by
        refine idx_at ?_ (fun j hj => ?_)
        · rw [occ_drop, show from_ + (i - from_) = i by omega]; exact ho
        · rw [occ_drop]; exact h5 _ (by omega) (by omega)
      have hp := pathB_hit hx
      rw [List.drop_drop, show from_ + (i - from_ + 2) = i + 2 by omega, List.take_drop, show from_ + (i - from_) = i by omega, ← h4] at hp
      refine conj.of (by omega) ?_
      simp (disch := first | assumption | exact Ne.symm (by assumption) | omega) only [Int.toNat_natCast, ↓ZD, ZU, ZR, Za, Zb, Zc, Zd, Ze, Zf, Zg, Zh, Zi, Zj, Zk, Zl, Zm, Zn, Zo, Zp, Zq, Zr, reduceIte, reduceCtorEq, Zs, Zt, Zu, Zv]
      refine CallE.pure (rname_pure F _ (by simp only [List.length_drop, List.length_take]; omega)) ?_
      simp (disch := first | assumption | exact Ne.symm (by assumption) | omega) only [↓ZD, ZU, ZR, Za, Zb, Zc, Zd, Ze, Zf, Zg, Zh, Zi, Zj, Zk, Zl, Zm, Zn, Zo, Zp, Zq, Zr, reduceIte, reduceCtorEq, Zs, Zt, Zu, Zv]
      refine ⟨fun hq => ?_, fun hq => ?_⟩
      · have : nameB ((s.take i).drop from_) = false := by simpa using hq
        rw [hp, this]; rfl
      · have : nameB ((s.take i).drop from_) = true := by simpa using hq
        rw [this, Bool.true_and] at hp
        refine invK.on (i + 2, i + 1) ⟨by simp only; omega, by simp, by simp only; omega, hp, fun j h1 h2 => absurd h2 (by simp only at h1 ⊢; omega)⟩ (by simp only; omega) (by (simp only [Le_nil, Le_cons]; simp (disch := first | assumption | exact Ne.symm (by assumption) | omega) only [↓ZD, ZU, ZR, Za, Zb, Zc, Zd, Ze, Zf, Zg, Zh, Zi, Zj, Zk, Zl, Zm, Zn, Zo, Zp, Zq, Zr, reduceIte, reduceCtorEq, Zs, Zt, Zu, Zv]; try trivial)) (by (simp only [HLe_nil, HLe_cons]; try (simp (disch := first | assumption | exact Ne.symm (by assumption) | omega) only [↓ZD, ZU, ZR, Za, Zb, Zc, Zd, Ze, Zf, Zg, Zh, Zi, Zj, Zk, Zl, Zm, Zn, Zo, Zp, Zq, Zr, reduceIte, reduceCtorEq, Zs, Zt, Zu, Zv])))
    · have ho : from_ ≤ i → Go.Lib.occAt s cc i = false := fun hle => by
        rw [Bool.eq_false_iff]
        intro ho
        obtain ⟨-, a0, a1⟩ := (occ_iff s i).mp ho
        rw [a0, a1] at hc
        simp at hc; omega
      refine invK.on (from_, i + 1) ⟨h1, by simp only; omega, by simp only; omega, h4, fun j k1 k2 => ?_⟩ (by simp only; omega) (by (simp only [Le_nil, Le_cons]; simp (disch := first | assumption | exact Ne.symm (by assumption) | omega) only [↓ZD, ZU, ZR, Za, Zb, Zc, Zd, Ze, Zf, Zg, Zh, Zi, Zj, Zk, Zl, Zm, Zn, Zo, Zp, Zq, Zr, reduceIte, reduceCtorEq, Zs, Zt, Zu, Zv]; try trivial)) (by (simp only [HLe_nil, HLe_cons]; try (simp (disch := first | assumption | exact Ne.symm (by assumption) | omega) only [↓ZD, ZU, ZR, Za, Zb, Zc, Zd, Ze, Zf, Zg, Zh, Zi, Zj, Zk, Zl, Zm, Zn, Zo, Zp, Zq, Zr, reduceIte, reduceCtorEq, Zs, Zt, Zu, Zv])))
      simp only at k1 k2
      by_cases hj : j = i
      · subst hj; exact ho k1
      · exact h5 j k1 (by omega)
  · have hd : decide ((i : Int) + 1 < (s.length : Int)) = false := by simp; omega
    simp (disch := first | assumption | exact Ne.symm (by assumption) | omega) only [hd, ↓ZD, ZU, ZR, Za, Zb, Zc, Zd, Ze, Zf, Zg, Zh, Zi, Zj, Zk, Zl, Zm, Zn, Zo, Zp, Zq, Zr, reduceIte, reduceCtorEq, Zs, Zt, Zu, Zv]
    have hx : Go.Lib.index (s.drop from_) cc = -1 := idx_no fun j => by
      rw [occ_drop, Bool.eq_false_iff]
      intro ho
      have h6 := (occ_iff s (from_ + j)).mp ho
      rw [h5 _ (by omega) (by omega)] at ho; cases ho
    rw [pathB_miss hx] at h4
    refine conj.of (fun _ => by omega) ?_
    simp (disch := first | assumption | exact Ne.symm (by assumption) | omega) only [Int.toNat_natCast, List.take_length, ↓ZD, ZU, ZR, Za, Zb, Zc, Zd, Ze, Zf, Zg, Zh, Zi, Zj, Zk, Zl, Zm, Zn, Zo, Zp, Zq, Zr, reduceIte, reduceCtorEq, Zs, Zt, Zu, Zv]
    refine CallQ.of _ (fun _ => (rname_pure F _ (by simp only [List.length_drop]; omega)).up) ?_
    have hle : decide ((from_ : Int) ≤ (s.length : Int)) = true := by simp; omega
    simp (disch := first | assumption | exact Ne.symm (by assumption) | omega) only [hle, h4, ↓ZD, ZU, ZR, Za, Zb, Zc, Zd, Ze, Zf, Zg, Zh, Zi, Zj, Zk, Zl, Zm, Zn, Zo, Zp, Zq, Zr, reduceIte, reduceCtorEq, Zs, Zt, Zu, Zv]
end Go.Proofs.YtoelfmmfjebabaaDoor
