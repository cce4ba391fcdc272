/- Layer 10: policies, of the reference. -/
import Derived.Test.YtoelfmmfjebabaaDoorPnW
namespace Go.Proofs.YtoelfmmfjebabaaDoor
open Go Go.Eng
open Int renaming reduceEq → Za, reduceToNat → Zm, reduceLE → Zn, reduceLT → Zo, reduceAdd → Zp, reduceSub → Zq, reduceNeg → Zr, reducePow → Zt, reduceNegSucc → Zv
open UInt8 renaming reduceOfNat → Zb
open List renaming mapM_cons → Zc, mapM_nil → Zd
open Nat renaming reduceAdd → Ze, reduceMul → Zf, reduceMod → Zg, reduceDiv → Zh, reduceEqDiff → Zi, reduceBEq → Zj, reduceLeDiff → Zk, reduceSub → Zl, reducePow → Zs, reduceLT → Zu
set_option linter.unusedSimpArgs false
set_option linter.unusedVariables false
set_option maxRecDepth 20000

set_option maxHeartbeats 4000000 in
theorem rpolicies_pure {F : Base} {v : Value} {l : List Pol} (hx : RepPols F v l) (hw : wtQ l ≤ 1048576) :
    PureV Tryd.prog F 12 #[v] (.tuple #[.string (bs (pols l).1), .int .i64 (pols l).2]) := by
  obtain ⟨al, cl, gl, rfl, hcl, hll, hc1, hc2⟩ := hx
  have hlen := polsT_len (F := F) (l := l) fun c hc => by
    obtain ⟨i, hi⟩ := List.getElem?_of_mem hc
    exact ⟨_, hc2 i c hi⟩
  refine pureV_of_svc mixed Tryd.func12 low12 (Nat.le_of_ble_eq_true rfl) (fun w0 => ?_)
  simp (disch := first | assumption | exact Ne.symm (by assumption) | omega) only [fu12, ↓ZD, ZU, ZR, Za, Zb, Zc, Zd, Ze, Zf, Zg, Zh, Zi, Zj, Zk, Zl, Zm, Zn, Zo, Zp, Zq, Zr, reduceIte, reduceCtorEq, Zs, Zt, Zu, Zv]
  refine LoopL.inv (α := Nat) (fun i => i ≤ l.length ∧ ∀ c ∈ l.take i, polE c = 0)
    (fun i => [(0, some (.slice al l.length cl)), (4, some (.string (bs (polsT (l.take i))))), (5, some (.int .i64 i))])
    (fun i => []) (fun i => l.length - i) 0 ⟨Nat.zero_le _, by simp⟩ (by (simp only [Le_nil, Le_cons]; simp (disch := first | assumption | exact Ne.symm (by assumption) | omega) only [↓ZD, ZU, ZR, Za, Zb, Zc, Zd, Ze, Zf, Zg, Zh, Zi, Zj, Zk, Zl, Zm, Zn, Zo, Zp, Zq, Zr, reduceIte, reduceCtorEq, Zs, Zt, Zu, Zv]; try trivial)) trivial ?_
  rintro i ⟨hi, hz⟩
  by_cases hlt : i < l.length
  · have hd : decide ((i : Int) < (l.length : Int)) = true := by simp; omega
    have gx : l[i]? = some (l.getD i nilP) := getDs _ hlt
    generalize l.getD i nilP = x at gx
    have hcm := wtQ_mem (List.mem_of_getElem? gx)
    have hle := polsT_take l (i + 1)
    have e9 : polsT (l.take (i + 1)) = polsT (l.take i) ++ polTx x := by rw [take_snoc gx, polsT_snoc]
    have hpt : polTx x = headT x ++ (condsT x.conds ++ [59, 10]) := rfl
    rw [e9, hpt] at hle
    simp only [List.length_append, List.length_cons, List.length_nil] at hle
    have hP : wtP x = x.id.length + wtS x.p + wtS x.a + wtS x.r + (x.conds.map fun c => wt c.2).sum := rfl
    have hlh := headT_len x
    obtain ⟨vp, va, vr, vc, e1, ⟨kkp, kka, kkr⟩, up, ua, ur, uc⟩ := hc2 i x gx
    have sp := rscope_pure F (cs := scells x.p vp) (x := x.p) ⟨_, rfl, kkp, up⟩ prN (by omega) (by decide)
    have sa := rscope_pure F (cs := scells x.a va) (x := x.a) ⟨_, rfl, kka, ua⟩ actN (by omega) (by decide)
    have sr := rscope_pure F (cs := scells x.r vr) (x := x.r) ⟨_, rfl, kkr, ur⟩ reN (by omega) (by decide)
    obtain ⟨a1, c1, rfl, -⟩ := up
    obtain ⟨a2, c2, rfl, -⟩ := ua
    obtain ⟨a3, c3, rfl, -⟩ := ur
    obtain ⟨ac, cc0, gc, rfl, hcc, hcl2, hd1, hd2⟩ := uc
    obtain ⟨ba, oa, rfl, hA, hB⟩ := (hc1 i x gx).all
    rw [e1] at hA hB
    have kp := hA 2 6 (by omega)
    have ka := hA 8 6 (by omega)
    have kr := hA 14 6 (by omega)
    have kid := hB 0 (by omega)
    have kpm := hB 1 (by omega)
    have kc := hB 20 (by omega)
    simp only [pcells, scells, List.cons_append, List.nil_append, List.drop_succ_cons, List.drop_zero, List.take_succ_cons, List.take_zero, List.getD_cons_succ, List.getD_cons_zero, Nat.add_zero] at kp ka kr kid kpm kc
    unfold scells at sp sa sr
    have oO : polOk x = (scopeOk x.p prN && (scopeOk x.a actN && scopeOk x.r reN)) := rfl
    have oP := @rscT_ok x.p prN
    have oA := @rscT_ok x.a actN
    have oR := @rscT_ok x.r reN
    generalize rscT x.p prN = Tp at sp oP
    generalize rscT x.a actN = Ta at sa oA
    generalize rscT x.r reN = Tr at sr oR
    generalize scopeOk x.p prN = Op at sp oO oP
    generalize scopeOk x.a actN = Oa at sa oO oA
    generalize scopeOk x.r reN = Or at sr oO oR
    simp only [prN, actN, reN] at sp sa sr
    simp (disch := first | assumption | exact Ne.symm (by assumption) | omega) only [hd, Nat.mul_one, ↓ZD, ZU, ZR, Za, Zb, Zc, Zd, Ze, Zf, Zg, Zh, Zi, Zj, Zk, Zl, Zm, Zn, Zo, Zp, Zq, Zr, reduceIte, reduceCtorEq, Zs, Zt, Zu, Zv]
    refine conj.of (by omega) ?_
    simp (disch := first | assumption | exact Ne.symm (by assumption) | omega) only [hd, Int.toNat_natCast, Nat.mul_one, ↓kp, ↓ka, ↓kr, ↓kid, ↓kpm, ↓kc, ↓ZD, ZU, ZR, Za, Zb, Zc, Zd, Ze, Zf, Zg, Zh, Zi, Zj, Zk, Zl, Zm, Zn, Zo, Zp, Zq, Zr, reduceIte, reduceCtorEq, Zs, Zt, Zu, Zv]
    refine CallE.pure sp ?_
    simp (disch := first | assumption | exact Ne.symm (by assumption) | omega) only [hd, Int.toNat_natCast, Nat.mul_one, ↓kp, ↓ka, ↓kr, ↓kid, ↓kpm, ↓kc, ↓ZD, ZU, ZR, Za, Zb, Zc, Zd, Ze, Zf, Zg, Zh, Zi, Zj, Zk, Zl, Zm, Zn, Zo, Zp, Zq, Zr, reduceIte, reduceCtorEq, Zs, Zt, Zu, Zv]
    refine conj.of (by omega) ?_
    simp (disch := first | assumption | exact Ne.symm (by assumption) | omega) only [hd, Int.toNat_natCast, Nat.mul_one, ↓kp, ↓ka, ↓kr, ↓kid, ↓kpm, ↓kc, ↓ZD, ZU, ZR, Za, Zb, Zc, Zd, Ze, Zf, Zg, Zh, Zi, Zj, Zk, Zl, Zm, Zn, Zo, Zp, Zq, Zr, reduceIte, reduceCtorEq, Zs, Zt, Zu, Zv]
    refine CallE.pure sa ?_
    simp (disch := first | assumption | exact Ne.symm (by assumption) | omega) only [hd, Int.toNat_natCast, Nat.mul_one, ↓kp, ↓ka, ↓kr, ↓kid, ↓kpm, ↓kc, ↓ZD, ZU, ZR, Za, Zb, Zc, Zd, Ze, Zf, Zg, Zh, Zi, Zj, Zk, Zl, Zm, Zn, Zo, Zp, Zq, Zr, reduceIte, reduceCtorEq, Zs, Zt, Zu, Zv]
    refine conj.of (by omega) ?_
    simp (disch := first | assumption | exact Ne.symm (by assumption) | omega) only [hd, Int.toNat_natCast, Nat.mul_one, ↓kp, ↓ka, ↓kr, ↓kid, ↓kpm, ↓kc, ↓ZD, ZU, ZR, Za, Zb, Zc, Zd, Ze, Zf, Zg, Zh, Zi, Zj, Zk, Zl, Zm, Zn, Zo, Zp, Zq, Zr, reduceIte, reduceCtorEq, Zs, Zt, Zu, Zv]
    refine CallE.pure sr ?_
    simp (disch := first | assumption | exact Ne.symm (by assumption) | omega) only [hd, Int.toNat_natCast, Nat.mul_one, ↓kp, ↓ka, ↓kr, ↓kid, ↓kpm, ↓kc, ↓ZD, ZU, ZR, Za, Zb, Zc, Zd, Ze, Zf, Zg, Zh, Zi, Zj, Zk, Zl, Zm, Zn, Zo, Zp, Zq, Zr, reduceIte, reduceCtorEq, Zs, Zt, Zu, Zv]
    refine ⟨fun hX => ?_, fun hX => ?_⟩
    · have hE1 : polE x = 1 := by
        unfold polE
        rw [oO]
        cases Op <;> cases Oa <;> cases Or <;> first | rfl | cases hX
      simp [pols, polsE_at gx hz (by rw [hE1]; decide), hE1]
    · obtain ⟨rfl, rfl, rfl⟩ : Op = true ∧ Oa = true ∧ Or = true := by cases Op <;> cases Oa <;> cases Or <;> simp_all
      obtain rfl := oP rfl
      obtain rfl := oA rfl
      obtain rfl := oR rfl
      have hE : polE x = condsE x.conds := by unfold polE; rw [oO]; rfl
      refine conj.of (by omega) ?_
      cases hpm : x.permit with
      | true =>
        have ehd : headT x = [64, 105, 100, 40] ++ (quote x.id ++ ([41, 32] ++ ([112, 101, 114, 109, 105, 116, 40] ++ (scopeT x.p prN ++ ([44, 32] ++ (scopeT x.a actN ++ ([44, 32] ++ (scopeT x.r reN ++ [41])))))))) := by unfold headT; rw [hpm]; rfl
        have hlh := hlh
        rw [ehd] at hlh
        simp only [List.length_append, List.length_cons, List.length_nil] at hlh
        simp (disch := first | assumption | exact Ne.symm (by assumption) | omega) only [hd, Int.toNat_natCast, Nat.mul_one, ↓kp, ↓ka, ↓kr, ↓kid, ↓kpm, ↓kc, hpm, Bool.not_true, Bool.not_false, ↓ZD, ZU, ZR, Za, Zb, Zc, Zd, Ze, Zf, Zg, Zh, Zi, Zj, Zk, Zl, Zm, Zn, Zo, Zp, Zq, Zr, reduceIte, reduceCtorEq, Zs, Zt, Zu, Zv]
        repeat (refine conj.of (by first | omega | (simp only [List.length_append, List.length_cons, List.length_nil]; omega)) ?_; simp (disch := first | assumption | exact Ne.symm (by assumption) | omega) only [hd, Int.toNat_natCast, Nat.mul_one, ↓kp, ↓ka, ↓kr, ↓kid, ↓kpm, ↓kc, hpm, Bool.not_true, Bool.not_false, ↓ZD, ZU, ZR, Za, Zb, Zc, Zd, Ze, Zf, Zg, Zh, Zi, Zj, Zk, Zl, Zm, Zn, Zo, Zp, Zq, Zr, reduceIte, reduceCtorEq, Zs, Zt, Zu, Zv])
        refine CallE.pure (rquote_pure F x.id (by omega)) ?_
        simp (disch := first | assumption | exact Ne.symm (by assumption) | omega) only [hd, Int.toNat_natCast, Nat.mul_one, ↓kp, ↓ka, ↓kr, ↓kid, ↓kpm, ↓kc, hpm, Bool.not_true, Bool.not_false, ↓ZD, ZU, ZR, Za, Zb, Zc, Zd, Ze, Zf, Zg, Zh, Zi, Zj, Zk, Zl, Zm, Zn, Zo, Zp, Zq, Zr, reduceIte, reduceCtorEq, Zs, Zt, Zu, Zv]
        repeat (refine conj.of (by first | omega | (simp only [List.length_append, List.length_cons, List.length_nil]; omega)) ?_; simp (disch := first | assumption | exact Ne.symm (by assumption) | omega) only [hd, Int.toNat_natCast, Nat.mul_one, ↓kp, ↓ka, ↓kr, ↓kid, ↓kpm, ↓kc, hpm, Bool.not_true, Bool.not_false, ↓ZD, ZU, ZR, Za, Zb, Zc, Zd, Ze, Zf, Zg, Zh, Zi, Zj, Zk, Zl, Zm, Zn, Zo, Zp, Zq, Zr, reduceIte, reduceCtorEq, Zs, Zt, Zu, Zv])
        refine LoopL.inv (α := Nat) (fun k => k ≤ x.conds.length ∧ ∀ c ∈ x.conds.take k, (ptx c.2).2 = 0)
          (fun k => [(0, some (.slice (some ⟨ba, oa, none⟩) l.length cl)), (4, some (.string (bs (polsT (l.take i) ++ (headT x ++ condsT (x.conds.take k)))))), (5, some (.int .i64 i)), (12, some (.int .i64 k))])
          (fun k => []) (fun k => x.conds.length - k) 0 ⟨Nat.zero_le _, by simp⟩ (by simp only [Le_nil, Le_cons, List.take_zero, condsT, ehd]; simp (disch := first | assumption | exact Ne.symm (by assumption) | omega) only [↓ZD, ZU, ZR, Za, Zb, Zc, Zd, Ze, Zf, Zg, Zh, Zi, Zj, Zk, Zl, Zm, Zn, Zo, Zp, Zq, Zr, reduceIte, reduceCtorEq, Zs, Zt, Zu, Zv]; simp [prN, actN, reN]) trivial ?_
        rintro k ⟨hk, hzk⟩
        by_cases hltk : k < x.conds.length
        · have hdk : decide ((k : Int) < (x.conds.length : Int)) = true := by simp; omega
          have gk : x.conds[k]? = some (x.conds.getD k (false, nilX)) := getDs _ hltk
          generalize x.conds.getD k (false, nilX) = c at gk
          have hcmk := sumC_mem (List.mem_of_getElem? gk)
          have hlek := condsT_take x.conds (k + 1)
          have e9k : condsT (x.conds.take (k + 1)) = condsT (x.conds.take k) ++ condT c := by rw [take_snoc gk, condsT_snoc]
          have hptk : condT c = (if c.1 then [32, 119, 104, 101, 110, 32, 123, 32] else [32, 117, 110, 108, 101, 115, 115, 32, 123, 32]) ++ ((ptx c.2).1 ++ [32, 125]) := rfl
          rw [e9k, hptk] at hlek
          simp only [List.length_append, List.length_cons, List.length_nil] at hlek
          have hpx := rexpr_pure (hd2 k c gk) (by omega)
          obtain ⟨bc, oc, rfl, hAc, hBc⟩ := (hd1 k c gk).all
          have kx := hAc 1 12 (by omega)
          have kw := hBc 0 (by omega)
          have hcl12 : (gc k).length = 12 := by have := (hd1 k c gk).len; simpa using this
          simp only [List.drop_succ_cons, List.drop_zero, List.getD_cons_zero, Nat.add_zero, List.take_of_length_le (Nat.le_of_eq hcl12)] at kx kw
          simp (disch := first | assumption | exact Ne.symm (by assumption) | omega) only [hd, Int.toNat_natCast, Nat.mul_one, ↓kp, ↓ka, ↓kr, ↓kid, ↓kpm, ↓kc, hpm, Bool.not_true, Bool.not_false, hdk, ↓kx, ↓kw, ↓ZD, ZU, ZR, Za, Zb, Zc, Zd, Ze, Zf, Zg, Zh, Zi, Zj, Zk, Zl, Zm, Zn, Zo, Zp, Zq, Zr, reduceIte, reduceCtorEq, Zs, Zt, Zu, Zv]
          repeat (refine conj.of (by first | omega | (simp only [List.length_append, List.length_cons, List.length_nil]; omega)) ?_; simp (disch := first | assumption | exact Ne.symm (by assumption) | omega) only [hd, Int.toNat_natCast, Nat.mul_one, ↓kp, ↓ka, ↓kr, ↓kid, ↓kpm, ↓kc, hpm, Bool.not_true, Bool.not_false, hdk, ↓kx, ↓kw, ↓ZD, ZU, ZR, Za, Zb, Zc, Zd, Ze, Zf, Zg, Zh, Zi, Zj, Zk, Zl, Zm, Zn, Zo, Zp, Zq, Zr, reduceIte, reduceCtorEq, Zs, Zt, Zu, Zv])
          refine CallE.pure hpx ?_
          by_cases hz0 : (ptx c.2).2 = 0
          · have hnz : ((ptx c.2).2 != 0) = false := by simp [hz0]
            cases hwh : c.1 with
            | true =>
              rw [hwh] at hlek hptk
              rw [if_pos rfl] at hlek hptk
              simp only [List.length_cons, List.length_nil] at hlek
              simp (disch := first | assumption | exact Ne.symm (by assumption) | omega) only [hd, Int.toNat_natCast, Nat.mul_one, ↓kp, ↓ka, ↓kr, ↓kid, ↓kpm, ↓kc, hpm, Bool.not_true, Bool.not_false, hdk, ↓kx, ↓kw, hnz, hwh, ↓ZD, ZU, ZR, Za, Zb, Zc, Zd, Ze, Zf, Zg, Zh, Zi, Zj, Zk, Zl, Zm, Zn, Zo, Zp, Zq, Zr, reduceIte, reduceCtorEq, Zs, Zt, Zu, Zv]
              repeat (refine conj.of (by first | omega | (simp only [List.length_append, List.length_cons, List.length_nil]; omega)) ?_; simp (disch := first | assumption | exact Ne.symm (by assumption) | omega) only [hd, Int.toNat_natCast, Nat.mul_one, ↓kp, ↓ka, ↓kr, ↓kid, ↓kpm, ↓kc, hpm, Bool.not_true, Bool.not_false, hdk, ↓kx, ↓kw, hnz, hwh, ↓ZD, ZU, ZR, Za, Zb, Zc, Zd, Ze, Zf, Zg, Zh, Zi, Zj, Zk, Zl, Zm, Zn, Zo, Zp, Zq, Zr, reduceIte, reduceCtorEq, Zs, Zt, Zu, Zv])
              refine invK.on (k + 1) ?_ ?_ ?_ ?_
              · refine ⟨by omega, ?_⟩
                intro c2 hc2
                rw [take_snoc gk] at hc2
                rcases List.mem_append.1 hc2 with h | h
                · exact hzk c2 h
                · rw [List.mem_singleton.1 h]; exact hz0
              · show x.conds.length - (k + 1) < x.conds.length - k; omega
              · simp only [Le_nil, Le_cons, e9k, hptk]; simp (disch := first | assumption | exact Ne.symm (by assumption) | omega) only [↓ZD, ZU, ZR, Za, Zb, Zc, Zd, Ze, Zf, Zg, Zh, Zi, Zj, Zk, Zl, Zm, Zn, Zo, Zp, Zq, Zr, reduceIte, reduceCtorEq, Zs, Zt, Zu, Zv]; simp
              · exact trivial
            | false =>
              rw [hwh] at hlek hptk
              rw [if_neg (by decide)] at hlek hptk
              simp only [List.length_cons, List.length_nil] at hlek
              simp (disch := first | assumption | exact Ne.symm (by assumption) | omega) only [hd, Int.toNat_natCast, Nat.mul_one, ↓kp, ↓ka, ↓kr, ↓kid, ↓kpm, ↓kc, hpm, Bool.not_true, Bool.not_false, hdk, ↓kx, ↓kw, hnz, hwh, ↓ZD, ZU, ZR, Za, Zb, Zc, Zd, Ze, Zf, Zg, Zh, Zi, Zj, Zk, Zl, Zm, Zn, Zo, Zp, Zq, Zr, reduceIte, reduceCtorEq, Zs, Zt, Zu, Zv]
              repeat (refine conj.of (by first | omega | (simp only [List.length_append, List.length_cons, List.length_nil]; omega)) ?_; simp (disch := first | assumption | exact Ne.symm (by assumption) | omega) only [hd, Int.toNat_natCast, Nat.mul_one, ↓kp, ↓ka, ↓kr, ↓kid, ↓kpm, ↓kc, hpm, Bool.not_true, Bool.not_false, hdk, ↓kx, ↓kw, hnz, hwh, ↓ZD, ZU, ZR, Za, Zb, Zc, Zd, Ze, Zf, Zg, Zh, Zi, Zj, Zk, Zl, Zm, Zn, Zo, Zp, Zq, Zr, reduceIte, reduceCtorEq, Zs, Zt, Zu, Zv])
              refine invK.on (k + 1) ?_ ?_ ?_ ?_
              · refine ⟨by omega, ?_⟩
                intro c2 hc2
                rw [take_snoc gk] at hc2
                rcases List.mem_append.1 hc2 with h | h
                · exact hzk c2 h
                · rw [List.mem_singleton.1 h]; exact hz0
              · show x.conds.length - (k + 1) < x.conds.length - k; omega
              · simp only [Le_nil, Le_cons, e9k, hptk]; simp (disch := first | assumption | exact Ne.symm (by assumption) | omega) only [↓ZD, ZU, ZR, Za, Zb, Zc, Zd, Ze, Zf, Zg, Zh, Zi, Zj, Zk, Zl, Zm, Zn, Zo, Zp, Zq, Zr, reduceIte, reduceCtorEq, Zs, Zt, Zu, Zv]; simp
              · exact trivial
          · have hnz : ((ptx c.2).2 != 0) = true := by simp [hz0]
            simp (disch := first | assumption | exact Ne.symm (by assumption) | omega) only [hd, Int.toNat_natCast, Nat.mul_one, ↓kp, ↓ka, ↓kr, ↓kid, ↓kpm, ↓kc, hpm, Bool.not_true, Bool.not_false, hdk, ↓kx, ↓kw, hnz, ↓ZD, ZU, ZR, Za, Zb, Zc, Zd, Ze, Zf, Zg, Zh, Zi, Zj, Zk, Zl, Zm, Zn, Zo, Zp, Zq, Zr, reduceIte, reduceCtorEq, Zs, Zt, Zu, Zv]
            have hE1 : polE x = (ptx c.2).2 := by rw [hE]; exact condsE_at gk hzk hz0
            simp [pols, polsE_at gx hz (by rw [hE1]; exact hz0), hE1, hz0]
        · have hdk : decide ((k : Int) < (x.conds.length : Int)) = false := by simp; omega
          obtain rfl : k = x.conds.length := by omega
          rw [List.take_length] at hzk ⊢
          simp (disch := first | assumption | exact Ne.symm (by assumption) | omega) only [hd, Int.toNat_natCast, Nat.mul_one, ↓kp, ↓ka, ↓kr, ↓kid, ↓kpm, ↓kc, hpm, Bool.not_true, Bool.not_false, hdk, ↓ZD, ZU, ZR, Za, Zb, Zc, Zd, Ze, Zf, Zg, Zh, Zi, Zj, Zk, Zl, Zm, Zn, Zo, Zp, Zq, Zr, reduceIte, reduceCtorEq, Zs, Zt, Zu, Zv]
          repeat (refine conj.of (by first | omega | (simp only [List.length_append, List.length_cons, List.length_nil]; omega)) ?_; simp (disch := first | assumption | exact Ne.symm (by assumption) | omega) only [hd, Int.toNat_natCast, Nat.mul_one, ↓kp, ↓ka, ↓kr, ↓kid, ↓kpm, ↓kc, hpm, Bool.not_true, Bool.not_false, hdk, ↓ZD, ZU, ZR, Za, Zb, Zc, Zd, Ze, Zf, Zg, Zh, Zi, Zj, Zk, Zl, Zm, Zn, Zo, Zp, Zq, Zr, reduceIte, reduceCtorEq, Zs, Zt, Zu, Zv])
          refine invK.on (i + 1) ?_ ?_ ?_ ?_
          · refine ⟨by omega, ?_⟩
            intro c2 hc2
            rw [take_snoc gx] at hc2
            rcases List.mem_append.1 hc2 with h | h
            · exact hz c2 h
            · rw [List.mem_singleton.1 h, hE]; exact condsE_zero hzk
          · show l.length - (i + 1) < l.length - i; omega
          · simp only [Le_nil, Le_cons, e9, hpt]; simp (disch := first | assumption | exact Ne.symm (by assumption) | omega) only [↓ZD, ZU, ZR, Za, Zb, Zc, Zd, Ze, Zf, Zg, Zh, Zi, Zj, Zk, Zl, Zm, Zn, Zo, Zp, Zq, Zr, reduceIte, reduceCtorEq, Zs, Zt, Zu, Zv]; simp
          · exact trivial
      | false =>
        have ehd : headT x = [64, 105, 100, 40] ++ (quote x.id ++ ([41, 32] ++ ([102, 111, 114, 98, 105, 100, 40] ++ (scopeT x.p prN ++ ([44, 32] ++ (scopeT x.a actN ++ ([44, 32] ++ (scopeT x.r reN ++ [41])))))))) := by unfold headT; rw [hpm]; rfl
        have hlh := hlh
        rw [ehd] at hlh
        simp only [List.length_append, List.length_cons, List.length_nil] at hlh
        simp (disch := first | assumption | exact Ne.symm (by assumption) | omega) only [hd, Int.toNat_natCast, Nat.mul_one, ↓kp, ↓ka, ↓kr, ↓kid, ↓kpm, ↓kc, hpm, Bool.not_true, Bool.not_false, ↓ZD, ZU, ZR, Za, Zb, Zc, Zd, Ze, Zf, Zg, Zh, Zi, Zj, Zk, Zl, Zm, Zn, Zo, Zp, Zq, Zr, reduceIte, reduceCtorEq, Zs, Zt, Zu, Zv]
        repeat (refine conj.of (by first | omega | (simp only [List.length_append, List.length_cons, List.length_nil]; omega)) ?_; simp (disch := first | assumption | exact Ne.symm (by assumption) | omega) only [hd, Int.toNat_natCast, Nat.mul_one, ↓kp, ↓ka, ↓kr, ↓kid, ↓kpm, ↓kc, hpm, Bool.not_true, Bool.not_false, ↓ZD, ZU, ZR, Za, Zb, Zc, Zd, Ze, Zf, Zg, Zh, Zi, Zj, Zk, Zl, Zm, Zn, Zo, Zp, Zq, Zr, reduceIte, reduceCtorEq, Zs, Zt, Zu, Zv])
        refine CallE.pure (rquote_pure F x.id (by omega)) ?_
        simp (disch := first | assumption | exact Ne.symm (by assumption) | omega) only [hd, Int.toNat_natCast, Nat.mul_one, ↓kp, ↓ka, ↓kr, ↓kid, ↓kpm, ↓kc, hpm, Bool.not_true, Bool.not_false, ↓ZD, ZU, ZR, Za, Zb, Zc, Zd, Ze, Zf, Zg, Zh, Zi, Zj, Zk, Zl, Zm, Zn, Zo, Zp, Zq, Zr, reduceIte, reduceCtorEq, Zs, Zt, Zu, Zv]
        repeat (refine conj.of (by first | omega | (simp only [List.length_append, List.length_cons, List.length_nil]; omega)) ?_; simp (disch := first | assumption | exact Ne.symm (by assumption) | omega) only [hd, Int.toNat_natCast, Nat.mul_one, ↓kp, ↓ka, ↓kr, ↓kid, ↓kpm, ↓kc, hpm, Bool.not_true, Bool.not_false, ↓ZD, ZU, ZR, Za, Zb, Zc, Zd, Ze, Zf, Zg, Zh, Zi, Zj, Zk, Zl, Zm, Zn, Zo, Zp, Zq, Zr, reduceIte, reduceCtorEq, Zs, Zt, Zu, Zv])
        refine LoopL.inv (α := Nat) (fun k => k ≤ x.conds.length ∧ ∀ c ∈ x.conds.take k, (ptx c.2).2 = 0)
          (fun k => [(0, some (.slice (some ⟨ba, oa, none⟩) l.length cl)), (4, some (.string (bs (polsT (l.take i) ++ (headT x ++ condsT (x.conds.take k)))))), (5, some (.int .i64 i)), (12, some (.int .i64 k))])
          (fun k => []) (fun k => x.conds.length - k) 0 ⟨Nat.zero_le _, by simp⟩ (by simp only [Le_nil, Le_cons, List.take_zero, condsT, ehd]; simp (disch := first | assumption | exact Ne.symm (by assumption) | omega) only [↓ZD, ZU, ZR, Za, Zb, Zc, Zd, Ze, Zf, Zg, Zh, Zi, Zj, Zk, Zl, Zm, Zn, Zo, Zp, Zq, Zr, reduceIte, reduceCtorEq, Zs, Zt, Zu, Zv]; simp [prN, actN, reN]) trivial ?_
        rintro k ⟨hk, hzk⟩
        by_cases hltk : k < x.conds.length
        · have hdk : decide ((k : Int) < (x.conds.length : Int)) = true := by simp; omega
          have gk : x.conds[k]? = some (x.conds.getD k (false, nilX)) := getDs _ hltk
          generalize x.conds.getD k (false, nilX) = c at gk
          have hcmk := sumC_mem (List.mem_of_getElem? gk)
          have hlek := condsT_take x.conds (k + 1)
          have e9k : condsT (x.conds.take (k + 1)) = condsT (x.conds.take k) ++ condT c := by rw [take_snoc gk, condsT_snoc]
          have hptk : condT c = (if c.1 then [32, 119, 104, 101, 110, 32, 123, 32] else [32, 117, 110, 108, 101, 115, 115, 32, 123, 32]) ++ ((ptx c.2).1 ++ [32, 125]) := rfl
          rw [e9k, hptk] at hlek
          simp only [List.length_append, List.length_cons, List.length_nil] at hlek
          have hpx := rexpr_pure (hd2 k c gk) (by omega)
          obtain ⟨bc, oc, rfl, hAc, hBc⟩ := (hd1 k c gk).all
          have kx := hAc 1 12 (by omega)
          have kw := hBc 0 (by omega)
          have hcl12 : (gc k).length = 12 := by have := (hd1 k c gk).len; simpa using this
          simp only [List.drop_succ_cons, List.drop_zero, List.getD_cons_zero, Nat.add_zero, List.take_of_length_le (Nat.le_of_eq hcl12)] at kx kw
          simp (disch := first | assumption | exact Ne.symm (by assumption) | omega) only [hd, Int.toNat_natCast, Nat.mul_one, ↓kp, ↓ka, ↓kr, ↓kid, ↓kpm, ↓kc, hpm, Bool.not_true, Bool.not_false, hdk, ↓kx, ↓kw, ↓ZD, ZU, ZR, Za, Zb, Zc, Zd, Ze, Zf, Zg, Zh, Zi, Zj, Zk, Zl, Zm, Zn, Zo, Zp, Zq, Zr, reduceIte, reduceCtorEq, Zs, Zt, Zu, Zv]
          repeat (refine conj.of (by first | omega | (simp only [List.length_append, List.length_cons, List.length_nil]; omega)) ?_; simp (disch := first | assumption | exact Ne.symm (by assumption) | omega) only [hd, Int.toNat_natCast, Nat.mul_one, ↓kp, ↓ka, ↓kr, ↓kid, ↓kpm, ↓kc, hpm, Bool.not_true, Bool.not_false, hdk, ↓kx, ↓kw, ↓ZD, ZU, ZR, Za, Zb, Zc, Zd, Ze, Zf, Zg, Zh, Zi, Zj, Zk, Zl, Zm, Zn, Zo, Zp, Zq, Zr, reduceIte, reduceCtorEq, Zs, Zt, Zu, Zv])
          refine CallE.pure hpx ?_
          by_cases hz0 : (ptx c.2).2 = 0
          · have hnz : ((ptx c.2).2 != 0) = false := by simp [hz0]
            cases hwh : c.1 with
            | true =>
              rw [hwh] at hlek hptk
              rw [if_pos rfl] at hlek hptk
              simp only [List.length_cons, List.length_nil] at hlek
              simp (disch := first | assumption | exact Ne.symm (by assumption) | omega) only [hd, Int.toNat_natCast, Nat.mul_one, ↓kp, ↓ka, ↓kr, ↓kid, ↓kpm, ↓kc, hpm, Bool.not_true, Bool.not_false, hdk, ↓kx, ↓kw, hnz, hwh, ↓ZD, ZU, ZR, Za, Zb, Zc, Zd, Ze, Zf, Zg, Zh, Zi, Zj, Zk, Zl, Zm, Zn, Zo, Zp, Zq, Zr, reduceIte, reduceCtorEq, Zs, Zt, Zu, Zv]
              repeat (refine conj.of (by first | omega | (simp only [List.length_append, List.length_cons, List.length_nil]; omega)) ?_; simp (disch := first | assumption | exact Ne.symm (by assumption) | omega) only [hd, Int.toNat_natCast, Nat.mul_one, ↓kp, ↓ka, ↓kr, ↓kid, ↓kpm, ↓kc, hpm, Bool.not_true, Bool.not_false, hdk, ↓kx, ↓kw, hnz, hwh, ↓ZD, ZU, ZR, Za, Zb, Zc, Zd, Ze, Zf, Zg, Zh, Zi, Zj, Zk, Zl, Zm, Zn, Zo, Zp, Zq, Zr, reduceIte, reduceCtorEq, Zs, Zt, Zu, Zv])
              refine invK.on (k + 1) ?_ ?_ ?_ ?_
              · refine ⟨by omega, ?_⟩
                intro c2 hc2
                rw [take_snoc gk] at hc2
                rcases List.mem_append.1 hc2 with h | h
                · exact hzk c2 h
                · rw [List.mem_singleton.1 h]; exact hz0
              · show x.conds.length - (k + 1) < x.conds.length - k; omega
              · simp only [Le_nil, Le_cons, e9k, hptk]; simp (disch := first | assumption | exact Ne.symm (by assumption) | omega) only [↓ZD, ZU, ZR, Za, Zb, Zc, Zd, Ze, Zf, Zg, Zh, Zi, Zj, Zk, Zl, Zm, Zn, Zo, Zp, Zq, Zr, reduceIte, reduceCtorEq, Zs, Zt, Zu, Zv]; simp
              · exact trivial
            | false =>
              rw [hwh] at hlek hptk
              rw [if_neg (by decide)] at hlek hptk
              simp only [List.length_cons, List.length_nil] at hlek
              simp (disch := first | assumption | exact Ne.symm (by assumption) | omega) only [hd, Int.toNat_natCast, Nat.mul_one, ↓kp, ↓ka, ↓kr, ↓kid, ↓kpm, ↓kc, hpm, Bool.not_true, Bool.not_false, hdk, ↓kx, ↓kw, hnz, hwh, ↓ZD, ZU, ZR, Za, Zb, Zc, Zd, Ze, Zf, Zg, Zh, Zi, Zj, Zk, Zl, Zm, Zn, Zo, Zp, Zq, Zr, reduceIte, reduceCtorEq, Zs, Zt, Zu, Zv]
              repeat (refine conj.of (by first | omega | (simp only [List.length_append, List.length_cons, List.length_nil]; omega)) ?_; simp (disch := first | assumption | exact Ne.symm (by assumption) | omega) only [hd, Int.toNat_natCast, Nat.mul_one, ↓kp, ↓ka, ↓kr, ↓kid, ↓kpm, ↓kc, hpm, Bool.not_true, Bool.not_false, hdk, ↓kx, ↓kw, hnz, hwh, ↓ZD, ZU, ZR, Za, Zb, Zc, Zd, Ze, Zf, Zg, Zh, Zi, Zj, Zk, Zl, Zm, Zn, Zo, Zp, Zq, Zr, reduceIte, reduceCtorEq, Zs, Zt, Zu, Zv])
              refine invK.on (k + 1) ?_ ?_ ?_ ?_
              · refine ⟨by omega, ?_⟩
                intro c2 hc2
                rw [take_snoc gk] at hc2
                rcases List.mem_append.1 hc2 with h | h
                · exact hzk c2 h
                · rw [List.mem_singleton.1 h]; exact hz0
              · show x.conds.length - (k + 1) < x.conds.length - k; omega
              · simp only [Le_nil, Le_cons, e9k, hptk]; simp (disch := first | assumption | exact Ne.symm (by assumption) | omega) only [↓ZD, ZU, ZR, Za, Zb, Zc, Zd, Ze, Zf, Zg, Zh, Zi, Zj, Zk, Zl, Zm, Zn, Zo, Zp, Zq, Zr, reduceIte, reduceCtorEq, Zs, Zt, Zu, Zv]; simp
              · exact trivial
          · have hnz : ((ptx c.2).2 != 0) = true := by simp [hz0]
            simp (disch := first | assumption | exact Ne.symm (by assumption) | omega) only [hd, Int.toNat_natCast, Nat.mul_one, ↓kp, ↓ka, ↓kr, ↓kid, ↓kpm, ↓kc, hpm, Bool.not_true, Bool.not_false, hdk, ↓kx, ↓kw, hnz, ↓ZD, ZU, ZR, Za, Zb, Zc, Zd, Ze, Zf, Zg, Zh, Zi, Zj, Zk, Zl, Zm, Zn, Zo, Zp, Zq, Zr, reduceIte, reduceCtorEq, Zs, Zt, Zu, Zv]
            have hE1 : polE x = (ptx c.2).2 := by rw [hE]; exact condsE_at gk hzk hz0
            simp [pols, polsE_at gx hz (by rw [hE1]; exact hz0), hE1, hz0]
        · have hdk : decide ((k : Int) < (x.conds.length : Int)) = false := by simp; omega
          obtain rfl : k = x.conds.length := by omega
          rw [List.take_length] at hzk ⊢
          simp (disch := first | assumption | exact Ne.symm (by assumption) | omega) only [hd, Int.toNat_natCast, Nat.mul_one, ↓kp, ↓ka, ↓kr, ↓kid, ↓kpm, ↓kc, hpm, Bool.not_true, Bool.not_false, hdk, ↓ZD, ZU, ZR, Za, Zb, Zc, Zd, Ze, Zf, Zg, Zh, Zi, Zj, Zk, Zl, Zm, Zn, Zo, Zp, Zq, Zr, reduceIte, reduceCtorEq, Zs, Zt, Zu, Zv]
          repeat (refine conj.of (by first | omega | (simp only [List.length_append, List.length_cons, List.length_nil]; omega)) ?_; simp (disch := first | assumption | exact Ne.symm (by assumption) | omega) only [hd, Int.toNat_natCast, Nat.mul_one, ↓kp, ↓ka, ↓kr, ↓kid, ↓kpm, ↓kc, hpm, Bool.not_true, Bool.not_false, hdk, ↓ZD, ZU, ZR, Za, Zb, Zc, Zd, Ze, Zf, Zg, Zh, Zi, Zj, Zk, Zl, Zm, Zn, Zo, Zp, Zq, Zr, reduceIte, reduceCtorEq, Zs, Zt, Zu, Zv])
          refine invK.on (i + 1) ?_ ?_ ?_ ?_
          · refine ⟨by omega, ?_⟩
            intro c2 hc2
            rw [take_snoc gx] at hc2
            rcases List.mem_append.1 hc2 with h | h
            · exact hz c2 h
            · rw [List.mem_singleton.1 h, hE]; exact condsE_zero hzk
          · show l.length - (i + 1) < l.length - i; omega
          · simp only [Le_nil, Le_cons, e9, hpt]; simp (disch := first | assumption | exact Ne.symm (by assumption) | omega) only [↓ZD, ZU, ZR, Za, Zb, Zc, Zd, Ze, Zf, Zg, Zh, Zi, Zj, Zk, Zl, Zm, Zn, Zo, Zp, Zq, Zr, reduceIte, reduceCtorEq, Zs, Zt, Zu, Zv]; simp
          · exact trivial
  · have hd : decide ((i : Int) < (l.length : Int)) = false := by simp; omega
    obtain rfl : i = l.length := by omega
    rw [List.take_length] at hz ⊢
    simp (disch := first | assumption | exact Ne.symm (by assumption) | omega) only [hd, ↓ZD, ZU, ZR, Za, Zb, Zc, Zd, Ze, Zf, Zg, Zh, Zi, Zj, Zk, Zl, Zm, Zn, Zo, Zp, Zq, Zr, reduceIte, reduceCtorEq, Zs, Zt, Zu, Zv]
    simp [pols, polsE_zero hz]
end Go.Proofs.YtoelfmmfjebabaaDoor
