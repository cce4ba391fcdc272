/- Layer 10: how deep an expression is, whether it is small, how many there are. -/
import Derived.Test.YtoelfmmfjebabaaDoorPnJ
namespace Go.Proofs.YtoelfmmfjebabaaDoor
open Go Go.Eng
open Int renaming reduceEq → Za, reduceToNat → Zm, reduceLE → Zn, reduceLT → Zo, reduceAdd → Zp, reduceSub → Zq, reduceNeg → Zr, reducePow → Zt, reduceNegSucc → Zv
open UInt8 renaming reduceOfNat → Zb
open List renaming mapM_cons → Zc, mapM_nil → Zd
open Nat renaming reduceAdd → Ze, reduceMul → Zf, reduceMod → Zg, reduceDiv → Zh, reduceEqDiff → Zi, reduceBEq → Zj, reduceLeDiff → Zk, reduceSub → Zl, reducePow → Zs, reduceLT → Zu
set_option linter.unusedSimpArgs false
set_option linter.unusedVariables false
set_option maxRecDepth 20000

theorem getX {l : List Ex'} {i : Nat} (h : i < l.length) : l[i]? = some (l.getD i nilX) := getDs nilX h
theorem depXL_app : ∀ l m, depXL (l ++ m) = max (depXL l) (depXL m)
  | [], m => by simp [depXL]
  | x :: l, m => by rw [List.cons_append, depXL, depXL, depXL_app, Nat.max_assoc]
theorem depXL_snoc {l : List Ex'} {i : Nat} {x : Ex'} (h : l[i]? = some x) : depXL (l.take (i + 1)) = max (depXL (l.take i)) (depX x) := by
  rw [take_snoc h, depXL_app]; simp [depXL]
theorem depXL_mem {l : List Ex'} {i : Nat} {x : Ex'} (h : l[i]? = some x) : depX x ≤ depXL l := by
  have e : depXL l = max (depXL (l.take (i + 1))) (depXL (l.drop (i + 1))) := by rw [← depXL_app, List.take_append_drop]
  rw [e, depXL_snoc h]; omega
mutual
theorem depX_wt : ∀ x : Ex', depX x ≤ wt x
  | .mk op v nm kids names => by rw [depX, wt]; have := depXL_wt kids; omega
theorem depXL_wt : ∀ l : List Ex', depXL l ≤ wtL l
  | [] => by simp [depXL]
  | x :: l => by rw [depXL, wtL]; have := depX_wt x; have := depXL_wt l; omega
end
theorem depXL_take {l : List Ex'} (i : Nat) : depXL (l.take i) ≤ depXL l := by
  have e : depXL l = max (depXL (l.take i)) (depXL (l.drop i)) := by rw [← depXL_app, List.take_append_drop]
  omega
theorem rdep_pure (F : Base) {cs : List Value} {e : Ex'} (h : RepX F cs e) : wt e ≤ 1048576 → PureV Tryd.prog F 17 #[.agg cs.toArray] (.int .i64 (depX e)) := by
  induction h with
  | mk op v u1 u2 nm a1 c1 kids g1 vn names hu hop hk hn hl1 hc1 h1 r1 hN i1 =>
    intro hw
    obtain ⟨an, cn, rfl, hcn, -⟩ := hN
    rw [wt] at hw
    have hdw := depXL_wt kids
    refine pureV_of_svc mixed Tryd.func17 low17 (Nat.le_of_ble_eq_true rfl) (fun w0 => ?_)
    unfold xcells
    simp (disch := first | assumption | exact Ne.symm (by assumption) | omega) only [fu17, ↓ZD, ZU, ZR, Za, Zb, Zc, Zd, Ze, Zf, Zg, Zh, Zi, Zj, Zk, Zl, Zm, Zn, Zo, Zp, Zq, Zr, reduceIte, reduceCtorEq, Zs, Zt, Zu, Zv]
    refine NewB.of fun b1 hb1 hF1 => ?_
    rw [depX]
    simp (disch := first | assumption | exact Ne.symm (by assumption) | omega) only [hF1, ↓ZD, ZU, ZR, Za, Zb, Zc, Zd, Ze, Zf, Zg, Zh, Zi, Zj, Zk, Zl, Zm, Zn, Zo, Zp, Zq, Zr, reduceIte, reduceCtorEq, Zs, Zt, Zu, Zv]
    refine LoopL.inv (α := Nat) (fun i => i ≤ kids.length)
      (fun i => [(1, some (.pointer (some ⟨b1, 0, none⟩))), (3, some (.int .i64 (depXL (kids.take i)))), (4, some (.int .i64 i))])
      (fun i => [(b1, .cells (xcells op v u1 u2 nm (.slice a1 kids.length c1) (.slice an names.length cn)).toArray 30 (0, 0))])
      (fun i => kids.length - i) 0 (Nat.zero_le _) ?_ ?_ ?_
    · simp only [Le_nil, Le_cons, List.take_zero, depXL]
      simp (disch := first | assumption | exact Ne.symm (by assumption) | omega) only [↓ZD, ZU, ZR, Za, Zb, Zc, Zd, Ze, Zf, Zg, Zh, Zi, Zj, Zk, Zl, Zm, Zn, Zo, Zp, Zq, Zr, reduceIte, reduceCtorEq, Zs, Zt, Zu, Zv]
    · simp only [HLe_nil, HLe_cons, xcells]
      simp (disch := first | assumption | exact Ne.symm (by assumption) | omega) only [↓ZD, ZU, ZR, Za, Zb, Zc, Zd, Ze, Zf, Zg, Zh, Zi, Zj, Zk, Zl, Zm, Zn, Zo, Zp, Zq, Zr, reduceIte, reduceCtorEq, Zs, Zt, Zu, Zv]
    · rintro i hi
      have hdt := depXL_take (l := kids) i
      by_cases hlt : i < kids.length
      · have hd : decide ((i : Int) < (kids.length : Int)) = true := by simp; omega
        have gx := getX hlt
        have hm := wtL_mem gx
        have hc := i1 i _ gx (by omega)
        obtain ⟨q1, q2, q3, q4, q5, q6, q7, q8, q9, q10, q11, q12, q13, q14, q15, q16, q17, q18, q19, q20, e1⟩ := (r1 i _ gx).form
        obtain ⟨ba, oa, rfl, hla⟩ := (h1 i _ gx).ldn
        rw [e1] at hc hla
        have hs := depXL_snoc gx
        have hm2 := depXL_mem gx
        unfold xcells
        simp (disch := first | assumption | exact Ne.symm (by assumption) | omega) only [hF1, hd, ↓ZD, ZU, ZR, Za, Zb, Zc, Zd, Ze, Zf, Zg, Zh, Zi, Zj, Zk, Zl, Zm, Zn, Zo, Zp, Zq, Zr, reduceIte, reduceCtorEq, Zs, Zt, Zu, Zv]
        refine conj.of (by omega) ?_
        simp (disch := first | assumption | exact Ne.symm (by assumption) | omega) only [hF1, hd, Int.toNat_natCast, ↓hla, ↓ZD, ZU, ZR, Za, Zb, Zc, Zd, Ze, Zf, Zg, Zh, Zi, Zj, Zk, Zl, Zm, Zn, Zo, Zp, Zq, Zr, reduceIte, reduceCtorEq, Zs, Zt, Zu, Zv]
        refine CallE.pure hc ?_
        simp (disch := first | assumption | exact Ne.symm (by assumption) | omega) only [hF1, hd, ↓ZD, ZU, ZR, Za, Zb, Zc, Zd, Ze, Zf, Zg, Zh, Zi, Zj, Zk, Zl, Zm, Zn, Zo, Zp, Zq, Zr, reduceIte, reduceCtorEq, Zs, Zt, Zu, Zv]
        refine ⟨fun hb => ?_, fun hb => ?_⟩
        all_goals
          refine invK.on (i + 1) (by omega) (by omega) ?_ ?_
          · simp only [decide_eq_true_eq, decide_eq_false_iff_not] at hb
            simp only [Le_nil, Le_cons, hs]
            simp (disch := first | assumption | exact Ne.symm (by assumption) | omega) only [↓ZD, ZU, ZR, Za, Zb, Zc, Zd, Ze, Zf, Zg, Zh, Zi, Zj, Zk, Zl, Zm, Zn, Zo, Zp, Zq, Zr, reduceIte, reduceCtorEq, Zs, Zt, Zu, Zv]
            first | (rw [Nat.max_eq_right (by omega)]; exact ⟨rfl, rfl⟩) | (rw [Nat.max_eq_left (by omega)]; exact ⟨rfl, rfl⟩)
          · simp only [HLe_nil, HLe_cons, xcells]
            simp (disch := first | assumption | exact Ne.symm (by assumption) | omega) only [↓ZD, ZU, ZR, Za, Zb, Zc, Zd, Ze, Zf, Zg, Zh, Zi, Zj, Zk, Zl, Zm, Zn, Zo, Zp, Zq, Zr, reduceIte, reduceCtorEq, Zs, Zt, Zu, Zv]
      · have hd : decide ((kids.length : Int) < (kids.length : Int)) = false := by simp
        obtain rfl : i = kids.length := by omega
        rw [List.take_length]
        unfold xcells
        simp (disch := first | assumption | exact Ne.symm (by assumption) | omega) only [hF1, hd, ↓ZD, ZU, ZR, Za, Zb, Zc, Zd, Ze, Zf, Zg, Zh, Zi, Zj, Zk, Zl, Zm, Zn, Zo, Zp, Zq, Zr, reduceIte, reduceCtorEq, Zs, Zt, Zu, Zv]
        rfl
theorem dep_pure (F : Base) {cs : List Value} {e : Ex'} (h : RepX F cs e) : wt e ≤ 1048576 → PureV Tryd.prog F 14 #[.agg cs.toArray] (.int .i64 (depX e)) := by
  induction h with
  | mk op v u1 u2 nm a1 c1 kids g1 vn names hu hop hk hn hl1 hc1 h1 r1 hN i1 =>
    intro hw
    obtain ⟨an, cn, rfl, hcn, -⟩ := hN
    rw [wt] at hw
    have hdw := depXL_wt kids
    refine pureV_of_svc mixed Tryd.func14 low14 (Nat.le_of_ble_eq_true rfl) (fun w0 => ?_)
    unfold xcells
    simp (disch := first | assumption | exact Ne.symm (by assumption) | omega) only [fu14, ↓ZD, ZU, ZR, Za, Zb, Zc, Zd, Ze, Zf, Zg, Zh, Zi, Zj, Zk, Zl, Zm, Zn, Zo, Zp, Zq, Zr, reduceIte, reduceCtorEq, Zs, Zt, Zu, Zv]
    refine NewB.of fun b1 hb1 hF1 => ?_
    rw [depX]
    simp (disch := first | assumption | exact Ne.symm (by assumption) | omega) only [hF1, ↓ZD, ZU, ZR, Za, Zb, Zc, Zd, Ze, Zf, Zg, Zh, Zi, Zj, Zk, Zl, Zm, Zn, Zo, Zp, Zq, Zr, reduceIte, reduceCtorEq, Zs, Zt, Zu, Zv]
    refine LoopL.inv (α := Nat) (fun i => i ≤ kids.length)
      (fun i => [(1, some (.pointer (some ⟨b1, 0, none⟩))), (3, some (.int .i64 (depXL (kids.take i)))), (7, some (.slice a1 kids.length c1)), (8, some (.int .i64 kids.length)), (9, some (.int .i64 i))])
      (fun i => []) (fun i => kids.length - i) 0 (Nat.zero_le _) ?_ ?_ ?_
    · simp only [Le_nil, Le_cons, List.take_zero, depXL]
      simp (disch := first | assumption | exact Ne.symm (by assumption) | omega) only [↓ZD, ZU, ZR, Za, Zb, Zc, Zd, Ze, Zf, Zg, Zh, Zi, Zj, Zk, Zl, Zm, Zn, Zo, Zp, Zq, Zr, reduceIte, reduceCtorEq, Zs, Zt, Zu, Zv]
      first | done | rfl
    · trivial
    · rintro i hi
      have hdt := depXL_take (l := kids) i
      by_cases hlt : i < kids.length
      · have hd : decide ((i : Int) < (kids.length : Int)) = true := by simp; omega
        have gx := getX hlt
        have hm := wtL_mem gx
        have hc := i1 i _ gx (by omega)
        obtain ⟨q1, q2, q3, q4, q5, q6, q7, q8, q9, q10, q11, q12, q13, q14, q15, q16, q17, q18, q19, q20, e1⟩ := (r1 i _ gx).form
        obtain ⟨ba, oa, rfl, hla⟩ := (h1 i _ gx).ldn
        rw [e1] at hc hla
        have hs := depXL_snoc gx
        have hm2 := depXL_mem gx
        simp (disch := first | assumption | exact Ne.symm (by assumption) | omega) only [hF1, hd, ↓ZD, ZU, ZR, Za, Zb, Zc, Zd, Ze, Zf, Zg, Zh, Zi, Zj, Zk, Zl, Zm, Zn, Zo, Zp, Zq, Zr, reduceIte, reduceCtorEq, Zs, Zt, Zu, Zv]
        refine conj.of (by omega) ?_
        simp (disch := first | assumption | exact Ne.symm (by assumption) | omega) only [hF1, hd, Int.toNat_natCast, ↓hla, ↓ZD, ZU, ZR, Za, Zb, Zc, Zd, Ze, Zf, Zg, Zh, Zi, Zj, Zk, Zl, Zm, Zn, Zo, Zp, Zq, Zr, reduceIte, reduceCtorEq, Zs, Zt, Zu, Zv]
        refine NewB.of fun b2 hb2 hF2 => ?_
        simp (disch := first | assumption | exact Ne.symm (by assumption) | omega) only [hF2, ↓ZD, ZU, ZR, Za, Zb, Zc, Zd, Ze, Zf, Zg, Zh, Zi, Zj, Zk, Zl, Zm, Zn, Zo, Zp, Zq, Zr, reduceIte, reduceCtorEq, Zs, Zt, Zu, Zv]
        refine CallE.pure hc ?_
        simp (disch := first | assumption | exact Ne.symm (by assumption) | omega) only [hF2, ↓ZD, ZU, ZR, Za, Zb, Zc, Zd, Ze, Zf, Zg, Zh, Zi, Zj, Zk, Zl, Zm, Zn, Zo, Zp, Zq, Zr, reduceIte, reduceCtorEq, Zs, Zt, Zu, Zv]
        refine invK.on (i + 1) (by omega) (by omega) ?_ trivial
        simp only [Le_nil, Le_cons, hs]
        simp (disch := first | assumption | exact Ne.symm (by assumption) | omega) only [↓ZD, ZU, ZR, Za, Zb, Zc, Zd, Ze, Zf, Zg, Zh, Zi, Zj, Zk, Zl, Zm, Zn, Zo, Zp, Zq, Zr, reduceIte, reduceCtorEq, Zs, Zt, Zu, Zv]
        refine ⟨?_, rfl⟩
        congr 2
        split <;> omega
      · have hd : decide ((kids.length : Int) < (kids.length : Int)) = false := by simp
        obtain rfl : i = kids.length := by omega
        rw [List.take_length]
        simp (disch := first | assumption | exact Ne.symm (by assumption) | omega) only [hF1, hd, ↓ZD, ZU, ZR, Za, Zb, Zc, Zd, Ze, Zf, Zg, Zh, Zi, Zj, Zk, Zl, Zm, Zn, Zo, Zp, Zq, Zr, reduceIte, reduceCtorEq, Zs, Zt, Zu, Zv]
        rfl
mutual
def fewB : Ex' → Nat → Bool
  | .mk _ _ _ kids names, d => !(decide (20 < kids.length) || decide (20 < names.length) || decide (60 < d)) && fewL kids (d + 1)
def fewL : List Ex' → Nat → Bool
  | [], _ => true
  | x :: l, d => fewB x d && fewL l d
end
theorem fewL_all : ∀ (l : List Ex') (d : Nat), fewL l d = l.all (fewB · d)
  | [], d => rfl
  | x :: l, d => by rw [fewL, List.all_cons, fewL_all l d]
theorem few_pure (F : Base) {cs : List Value} {e : Ex'} (h : RepX F cs e) : ∀ d : Nat, d ≤ 100 → PureV Tryd.prog F 7 #[.agg cs.toArray, .int .i64 d] (.bool (fewB e d)) := by
  induction h with
  | mk op v u1 u2 nm a1 c1 kids g1 vn names hu hop hk hn hl1 hc1 h1 r1 hN i1 =>
    intro d hd0
    obtain ⟨an, cn, rfl, hcn, hln, -⟩ := hN
    refine pureV_of_svc mixed Tryd.func7 low7 (Nat.le_of_ble_eq_true rfl) (fun w0 => ?_)
    unfold xcells
    simp (disch := first | assumption | exact Ne.symm (by assumption) | omega) only [fu7, ↓ZD, ZU, ZR, Za, Zb, Zc, Zd, Ze, Zf, Zg, Zh, Zi, Zj, Zk, Zl, Zm, Zn, Zo, Zp, Zq, Zr, reduceIte, reduceCtorEq, Zs, Zt, Zu, Zv]
    refine NewB.of fun b1 hb1 hF1 => ?_
    rw [fewB, fewL_all]
    simp (disch := first | assumption | exact Ne.symm (by assumption) | omega) only [hF1, ↓ZD, ZU, ZR, Za, Zb, Zc, Zd, Ze, Zf, Zg, Zh, Zi, Zj, Zk, Zl, Zm, Zn, Zo, Zp, Zq, Zr, reduceIte, reduceCtorEq, Zs, Zt, Zu, Zv]
    have e1 : (decide ((20 : Int) < (kids.length : Int)) || decide ((20 : Int) < (names.length : Int)) || decide ((60 : Int) < (d : Int))) = (decide (20 < kids.length) || decide (20 < names.length) || decide (60 < d)) := by
      rw [Bool.eq_iff_iff]; simp only [Bool.or_eq_true, decide_eq_true_eq]; omega
    rw [e1]
    refine ⟨fun hb => by rw [hb]; rfl, fun hb => ?_⟩
    have hd6 : d ≤ 60 := by simp only [Bool.or_eq_false_iff, decide_eq_false_iff_not] at hb; omega
    rw [hb, Bool.not_false, Bool.true_and]
    refine LoopL.inv (α := Nat) (fun i => i ≤ kids.length ∧ (kids.take i).all (fewB · (d + 1)) = true)
      (fun i => [(1, some (.int .i64 d)), (2, some (.pointer (some ⟨b1, 0, none⟩))), (5, some (.int .i64 i))])
      (fun i => [(b1, .cells (xcells op v u1 u2 nm (.slice a1 kids.length c1) (.slice an names.length cn)).toArray 30 (0, 0))])
      (fun i => kids.length - i) 0 ⟨Nat.zero_le _, rfl⟩ (by (simp only [Le_nil, Le_cons]; simp (disch := first | assumption | exact Ne.symm (by assumption) | omega) only [↓ZD, ZU, ZR, Za, Zb, Zc, Zd, Ze, Zf, Zg, Zh, Zi, Zj, Zk, Zl, Zm, Zn, Zo, Zp, Zq, Zr, reduceIte, reduceCtorEq, Zs, Zt, Zu, Zv]; try trivial)) (by simp only [HLe_nil, HLe_cons, xcells]; simp (disch := first | assumption | exact Ne.symm (by assumption) | omega) only [↓ZD, ZU, ZR, Za, Zb, Zc, Zd, Ze, Zf, Zg, Zh, Zi, Zj, Zk, Zl, Zm, Zn, Zo, Zp, Zq, Zr, reduceIte, reduceCtorEq, Zs, Zt, Zu, Zv]) ?_
    rintro i ⟨hi, ha⟩
    by_cases hlt : i < kids.length
    · have hd : decide ((i : Int) < (kids.length : Int)) = true := by simp; omega
      have gx := getX hlt
      have hc := i1 i _ gx (d + 1) (by omega)
      obtain ⟨ba, oa, rfl, hla⟩ := (h1 i _ gx).ldn
      have hts : (kids.take (i + 1)).all (fewB · (d + 1)) = fewB (kids.getD i nilX) (d + 1) := by
        rw [take_snoc gx, List.all_append, ha]; simp
      unfold xcells
      simp (disch := first | assumption | exact Ne.symm (by assumption) | omega) only [hF1, hd, ↓ZD, ZU, ZR, Za, Zb, Zc, Zd, Ze, Zf, Zg, Zh, Zi, Zj, Zk, Zl, Zm, Zn, Zo, Zp, Zq, Zr, reduceIte, reduceCtorEq, Zs, Zt, Zu, Zv]
      refine conj.of (by omega) ?_
      simp (disch := first | assumption | exact Ne.symm (by assumption) | omega) only [hF1, hd, Int.toNat_natCast, ↓hla, ↓ZD, ZU, ZR, Za, Zb, Zc, Zd, Ze, Zf, Zg, Zh, Zi, Zj, Zk, Zl, Zm, Zn, Zo, Zp, Zq, Zr, reduceIte, reduceCtorEq, Zs, Zt, Zu, Zv]
      refine CallE.pure hc ?_
      simp (disch := first | assumption | exact Ne.symm (by assumption) | omega) only [hF1, ↓ZD, ZU, ZR, Za, Zb, Zc, Zd, Ze, Zf, Zg, Zh, Zi, Zj, Zk, Zl, Zm, Zn, Zo, Zp, Zq, Zr, reduceIte, reduceCtorEq, Zs, Zt, Zu, Zv]
      refine ⟨fun hx => ?_, fun hx => ?_⟩
      · have : kids.all (fewB · (d + 1)) = false := by
          rw [List.all_eq_false]; exact ⟨_, List.mem_of_getElem? gx, by simpa using hx⟩
        rw [this]
      · refine invK.on (i + 1) ⟨by omega, by rw [hts]; simpa using hx⟩ (by omega) ?_ ?_
        · simp only [Le_nil, Le_cons]
          simp (disch := first | assumption | exact Ne.symm (by assumption) | omega) only [↓ZD, ZU, ZR, Za, Zb, Zc, Zd, Ze, Zf, Zg, Zh, Zi, Zj, Zk, Zl, Zm, Zn, Zo, Zp, Zq, Zr, reduceIte, reduceCtorEq, Zs, Zt, Zu, Zv]
          rfl
        · simp only [HLe_nil, HLe_cons, xcells]
          simp (disch := first | assumption | exact Ne.symm (by assumption) | omega) only [↓ZD, ZU, ZR, Za, Zb, Zc, Zd, Ze, Zf, Zg, Zh, Zi, Zj, Zk, Zl, Zm, Zn, Zo, Zp, Zq, Zr, reduceIte, reduceCtorEq, Zs, Zt, Zu, Zv]
    · have hd : decide ((i : Int) < (kids.length : Int)) = false := by simp; omega
      obtain rfl : i = kids.length := by omega
      rw [List.take_length] at ha
      unfold xcells
      simp (disch := first | assumption | exact Ne.symm (by assumption) | omega) only [hF1, hd, ↓ZD, ZU, ZR, Za, Zb, Zc, Zd, Ze, Zf, Zg, Zh, Zi, Zj, Zk, Zl, Zm, Zn, Zo, Zp, Zq, Zr, reduceIte, reduceCtorEq, Zs, Zt, Zu, Zv]
      rw [ha]
mutual
def sizeN : Ex' → Nat
  | .mk _ _ _ kids _ => sizeL kids 1
def sizeL : List Ex' → Nat → Nat
  | [], n => n
  | x :: l, n => if n < 1000 then sizeL l (n + sizeN x) else n
end
mutual
theorem sizeN_wt : ∀ x : Ex', sizeN x ≤ wt x
  | .mk op v nm kids names => by rw [sizeN, wt]; have := sizeL_wt kids 1; omega
theorem sizeL_wt : ∀ (l : List Ex') (n : Nat), sizeL l n ≤ n + wtL l
  | [], n => by simp [sizeL]
  | x :: l, n => by
    rw [sizeL, wtL]
    have h1 := sizeN_wt x
    have h2 := sizeL_wt l (n + sizeN x)
    split <;> omega
end
theorem sizeL_full : ∀ (l : List Ex') (n : Nat), ¬ n < 1000 → sizeL l n = n
  | [], n, h => by simp [sizeL]
  | x :: l, n, h => by rw [sizeL, if_neg h]
theorem size_pure' (F : Base) {cs : List Value} {e : Ex'} (h : RepX F cs e) : wt e ≤ 1048576 → PureV Tryd.prog F 8 #[.agg cs.toArray] (.int .i64 (sizeN e)) := by
  induction h with
  | mk op v u1 u2 nm a1 c1 kids g1 vn names hu hop hk hn hl1 hc1 h1 r1 hN i1 =>
    intro hw
    obtain ⟨an, cn, rfl, hcn, -⟩ := hN
    rw [wt] at hw
    refine pureV_of_svc mixed Tryd.func8 low8 (Nat.le_of_ble_eq_true rfl) (fun w0 => ?_)
    unfold xcells
    simp (disch := first | assumption | exact Ne.symm (by assumption) | omega) only [fu8, ↓ZD, ZU, ZR, Za, Zb, Zc, Zd, Ze, Zf, Zg, Zh, Zi, Zj, Zk, Zl, Zm, Zn, Zo, Zp, Zq, Zr, reduceIte, reduceCtorEq, Zs, Zt, Zu, Zv]
    refine NewB.of fun b1 hb1 hF1 => ?_
    rw [sizeN]
    simp (disch := first | assumption | exact Ne.symm (by assumption) | omega) only [hF1, ↓ZD, ZU, ZR, Za, Zb, Zc, Zd, Ze, Zf, Zg, Zh, Zi, Zj, Zk, Zl, Zm, Zn, Zo, Zp, Zq, Zr, reduceIte, reduceCtorEq, Zs, Zt, Zu, Zv]
    refine LoopL.inv (α := Nat × Nat) (fun x => x.1 ≤ kids.length ∧ sizeL (kids.drop x.1) x.2 = sizeL kids 1 ∧ x.2 ≤ 1 + wtL (kids.take x.1))
      (fun x => [(1, some (.pointer (some ⟨b1, 0, none⟩))), (3, some (.int .i64 x.2)), (4, some (.int .i64 x.1))])
      (fun x => [(b1, .cells (xcells op v u1 u2 nm (.slice a1 kids.length c1) (.slice an names.length cn)).toArray 30 (0, 0))])
      (fun x => kids.length - x.1) (0, 1) ⟨Nat.zero_le _, rfl, by simp [wtL]⟩ (by (simp only [Le_nil, Le_cons]; simp (disch := first | assumption | exact Ne.symm (by assumption) | omega) only [↓ZD, ZU, ZR, Za, Zb, Zc, Zd, Ze, Zf, Zg, Zh, Zi, Zj, Zk, Zl, Zm, Zn, Zo, Zp, Zq, Zr, reduceIte, reduceCtorEq, Zs, Zt, Zu, Zv]; try trivial)) (by simp only [HLe_nil, HLe_cons, xcells]; simp (disch := first | assumption | exact Ne.symm (by assumption) | omega) only [↓ZD, ZU, ZR, Za, Zb, Zc, Zd, Ze, Zf, Zg, Zh, Zi, Zj, Zk, Zl, Zm, Zn, Zo, Zp, Zq, Zr, reduceIte, reduceCtorEq, Zs, Zt, Zu, Zv]) ?_
    rintro ⟨i, n⟩ ⟨hi, ha, hn2⟩
    simp only at hi ha hn2 ⊢
    by_cases hlt : i < kids.length
    · by_cases hfull : n < 1000
      · have hd : decide ((i : Int) < (kids.length : Int)) = true := by simp; omega
        have gx := getX hlt
        have hm := wtL_mem gx
        have hc := i1 i _ gx (by omega)
        obtain ⟨q1, q2, q3, q4, q5, q6, q7, q8, q9, q10, q11, q12, q13, q14, q15, q16, q17, q18, q19, q20, e1⟩ := (r1 i _ gx).form
        obtain ⟨ba, oa, rfl, hla⟩ := (h1 i _ gx).ldn
        rw [e1] at hc hla
        have hsz := sizeN_wt (kids.getD i nilX)
        have hf : decide ((n : Int) < 1000) = true := by simp; omega
        unfold xcells
        simp (disch := first | assumption | exact Ne.symm (by assumption) | omega) only [hF1, hd, hf, ↓ZD, ZU, ZR, Za, Zb, Zc, Zd, Ze, Zf, Zg, Zh, Zi, Zj, Zk, Zl, Zm, Zn, Zo, Zp, Zq, Zr, reduceIte, reduceCtorEq, Zs, Zt, Zu, Zv]
        refine conj.of (by omega) ?_
        simp (disch := first | assumption | exact Ne.symm (by assumption) | omega) only [hF1, hd, hf, Int.toNat_natCast, ↓hla, ↓ZD, ZU, ZR, Za, Zb, Zc, Zd, Ze, Zf, Zg, Zh, Zi, Zj, Zk, Zl, Zm, Zn, Zo, Zp, Zq, Zr, reduceIte, reduceCtorEq, Zs, Zt, Zu, Zv]
        refine CallE.pure hc ?_
        simp (disch := first | assumption | exact Ne.symm (by assumption) | omega) only [hF1, ↓ZD, ZU, ZR, Za, Zb, Zc, Zd, Ze, Zf, Zg, Zh, Zi, Zj, Zk, Zl, Zm, Zn, Zo, Zp, Zq, Zr, reduceIte, reduceCtorEq, Zs, Zt, Zu, Zv]
        have hdr : kids.drop i = kids.getD i nilX :: kids.drop (i + 1) := by
          rw [List.drop_eq_getElem_cons hlt, List.getD_eq_getElem?_getD, List.getElem?_eq_getElem hlt]; rfl
        have hwt : wtL (kids.take (i + 1)) = wtL (kids.take i) + wt (kids.getD i nilX) := by
          rw [take_snoc gx]
          have key : ∀ l m, wtL (l ++ m) = wtL l + wtL m := fun l m => by
            induction l with
            | nil => simp [wtL]
            | cons x l ih => rw [List.cons_append, wtL, wtL, ih]; omega
          rw [key]; simp [wtL]
        refine invK.on (i + 1, n + sizeN (kids.getD i nilX)) ⟨by show i + 1 ≤ _; omega, ?_, ?_⟩ (by show _ - (i + 1) < _ - i; omega) ?_ ?_
        · rw [← ha, hdr, sizeL, if_pos hfull]
        · show n + _ ≤ 1 + wtL (kids.take (i + 1))
          rw [hwt]; omega
        · simp only [Le_nil, Le_cons]
          simp (disch := first | assumption | exact Ne.symm (by assumption) | omega) only [↓ZD, ZU, ZR, Za, Zb, Zc, Zd, Ze, Zf, Zg, Zh, Zi, Zj, Zk, Zl, Zm, Zn, Zo, Zp, Zq, Zr, reduceIte, reduceCtorEq, Zs, Zt, Zu, Zv]
          exact ⟨rfl, rfl⟩
        · simp only [HLe_nil, HLe_cons, xcells]
          simp (disch := first | assumption | exact Ne.symm (by assumption) | omega) only [↓ZD, ZU, ZR, Za, Zb, Zc, Zd, Ze, Zf, Zg, Zh, Zi, Zj, Zk, Zl, Zm, Zn, Zo, Zp, Zq, Zr, reduceIte, reduceCtorEq, Zs, Zt, Zu, Zv]
      · have hd : decide ((i : Int) < (kids.length : Int)) = true := by simp; omega
        have hf : decide ((n : Int) < 1000) = false := by simp; omega
        rw [sizeL_full _ _ hfull] at ha
        unfold xcells
        simp (disch := first | assumption | exact Ne.symm (by assumption) | omega) only [hF1, hd, hf, ↓ZD, ZU, ZR, Za, Zb, Zc, Zd, Ze, Zf, Zg, Zh, Zi, Zj, Zk, Zl, Zm, Zn, Zo, Zp, Zq, Zr, reduceIte, reduceCtorEq, Zs, Zt, Zu, Zv]
        rw [ha]
    · have hd : decide ((i : Int) < (kids.length : Int)) = false := by simp; omega
      obtain rfl : i = kids.length := by omega
      rw [List.drop_length, sizeL] at ha
      unfold xcells
      simp (disch := first | assumption | exact Ne.symm (by assumption) | omega) only [hF1, hd, ↓ZD, ZU, ZR, Za, Zb, Zc, Zd, Ze, Zf, Zg, Zh, Zi, Zj, Zk, Zl, Zm, Zn, Zo, Zp, Zq, Zr, reduceIte, reduceCtorEq, Zs, Zt, Zu, Zv]
      rw [ha]
end Go.Proofs.YtoelfmmfjebabaaDoor
