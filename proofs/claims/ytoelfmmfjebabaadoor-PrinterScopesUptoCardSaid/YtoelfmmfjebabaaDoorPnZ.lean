/- Layer 10: the laws, over the memory. -/
import Derived.Test.YtoelfmmfjebabaaDoorPnY
namespace Go.Proofs.YtoelfmmfjebabaaDoor
open Go Go.Eng
open Int renaming reduceEq → Za, reduceToNat → Zm, reduceLE → Zn, reduceLT → Zo, reduceAdd → Zp, reduceSub → Zq, reduceNeg → Zr, reducePow → Zt, reduceNegSucc → Zv
open UInt8 renaming reduceOfNat → Zb
open List renaming mapM_cons → Zc, mapM_nil → Zd
open Nat renaming reduceAdd → Ze, reduceMul → Zf, reduceMod → Zg, reduceDiv → Zh, reduceEqDiff → Zi, reduceBEq → Zj, reduceLeDiff → Zk, reduceSub → Zl, reducePow → Zs, reduceLT → Zu
set_option linter.unusedSimpArgs false
set_option linter.unusedVariables false
set_option maxRecDepth 20000

theorem tells_law {F : Base} (hM : HasM F) (hS : HasSigns F) {cs : List Value} {x : Ex'} (h : RepX F cs x) (hw : wt x ≤ 1048576) : PureV Tryd.prog F 3 #[.agg cs.toArray] (.bool true) := by
  have pa := awake_pure hM hS
  have pf := few_pure F h 0 (by decide)
  have ps := size_pure' F h hw
  have p1 := pexpr_pure hM hS h hw
  have p2 := rexpr_pure h hw
  obtain ⟨op, k, bo, n, s1, s2, s3, d1, d2, d3, d4, d5, d6, nm, a1, n1, c1, a2, n2, c2, rfl⟩ := h.form
  refine pureV_of_svc mixed Tryd.func3 low3 (Nat.le_of_ble_eq_true rfl) (fun w0 => ?_)
  simp (disch := first | assumption | exact Ne.symm (by assumption) | omega) only [fu3, ↓ZD, ZU, ZR, Za, Zb, Zc, Zd, Ze, Zf, Zg, Zh, Zi, Zj, Zk, Zl, Zm, Zn, Zo, Zp, Zq, Zr, reduceIte, reduceCtorEq, Zs, Zt, Zu, Zv]
  refine NewB.of fun b1 hb1 hF1 => ?_
  simp (disch := first | assumption | exact Ne.symm (by assumption) | omega) only [hF1, ↓ZD, ZU, ZR, Za, Zb, Zc, Zd, Ze, Zf, Zg, Zh, Zi, Zj, Zk, Zl, Zm, Zn, Zo, Zp, Zq, Zr, reduceIte, reduceCtorEq, Zs, Zt, Zu, Zv]
  refine CallE.pure pa ?_
  simp (disch := first | assumption | exact Ne.symm (by assumption) | omega) only [hF1, ↓ZD, ZU, ZR, Za, Zb, Zc, Zd, Ze, Zf, Zg, Zh, Zi, Zj, Zk, Zl, Zm, Zn, Zo, Zp, Zq, Zr, reduceIte, reduceCtorEq, Zs, Zt, Zu, Zv]
  refine CallE.pure pf ?_
  cases hfe : fewB x 0 with
  | false =>
    simp (disch := first | assumption | exact Ne.symm (by assumption) | omega) only [hF1, ↓ZD, ZU, ZR, Za, Zb, Zc, Zd, Ze, Zf, Zg, Zh, Zi, Zj, Zk, Zl, Zm, Zn, Zo, Zp, Zq, Zr, reduceIte, reduceCtorEq, Zs, Zt, Zu, Zv]
    refine CallQ.of (.int .i64 0) trivial ?_
    simp (disch := first | assumption | exact Ne.symm (by assumption) | omega) only [↓ZD, ZU, ZR, Za, Zb, Zc, Zd, Ze, Zf, Zg, Zh, Zi, Zj, Zk, Zl, Zm, Zn, Zo, Zp, Zq, Zr, reduceIte, reduceCtorEq, Zs, Zt, Zu, Zv]
  | true =>
    simp (disch := first | assumption | exact Ne.symm (by assumption) | omega) only [hF1, ↓ZD, ZU, ZR, Za, Zb, Zc, Zd, Ze, Zf, Zg, Zh, Zi, Zj, Zk, Zl, Zm, Zn, Zo, Zp, Zq, Zr, reduceIte, reduceCtorEq, Zs, Zt, Zu, Zv]
    refine CallQ.of _ ps.up ?_
    simp (disch := first | assumption | exact Ne.symm (by assumption) | omega) only [hF1, ↓ZD, ZU, ZR, Za, Zb, Zc, Zd, Ze, Zf, Zg, Zh, Zi, Zj, Zk, Zl, Zm, Zn, Zo, Zp, Zq, Zr, reduceIte, reduceCtorEq, Zs, Zt, Zu, Zv]
    refine fun _ => ?_
    refine CallE.pure p1 ?_
    simp (disch := first | assumption | exact Ne.symm (by assumption) | omega) only [hF1, ↓ZD, ZU, ZR, Za, Zb, Zc, Zd, Ze, Zf, Zg, Zh, Zi, Zj, Zk, Zl, Zm, Zn, Zo, Zp, Zq, Zr, reduceIte, reduceCtorEq, Zs, Zt, Zu, Zv]
    refine CallE.pure p2 ?_
    simp (disch := first | assumption | exact Ne.symm (by assumption) | omega) only [↓ZD, ZU, ZR, Za, Zb, Zc, Zd, Ze, Zf, Zg, Zh, Zi, Zj, Zk, Zl, Zm, Zn, Zo, Zp, Zq, Zr, reduceIte, reduceCtorEq, Zs, Zt, Zu, Zv]
theorem scopes_law {F : Base} (hM : HasM F) (hS : HasSigns F) {cp ca cr : List Value} {p a r : Scp} (hp : RepSc F cp p) (ha : RepSc F ca a) (hr : RepSc F cr r) (permit : Bool) (id : Str) (hw : wtS p + wtS a + wtS r + id.length ≤ 1048575) :
    PureV Tryd.prog F 5 #[.agg cp.toArray, .agg ca.toArray, .agg cr.toArray, .bool permit, .string (bs id)] (.bool true) := by
  have pa := awake_pure hM hS
  obtain ⟨vp, rfl, kkp, up⟩ := hp
  obtain ⟨va, rfl, kka, ua⟩ := ha
  obtain ⟨vr, rfl, kkr, ur⟩ := hr
  have up0 := up
  have ua0 := ua
  have ur0 := ur
  obtain ⟨a1, c1, rfl, -⟩ := up
  obtain ⟨a2, c2, rfl, -⟩ := ua
  obtain ⟨a3, c3, rfl, -⟩ := ur
  have key : ∀ (F' : Base) (b : Nat), (∀ b o, F b = some o → F' b = some o) → F' b = some (.cells (pcells ⟨id, permit, p, a, r, []⟩ (.slice a1 p.list.length c1) (.slice a2 a.list.length c2) (.slice a3 r.list.length c3) nilV).toArray 44 (0, 0)) → RepPols F' (.slice (some ⟨b, 0, none⟩) 1 1) [⟨id, permit, p, a, r, []⟩] := by
    intro F' b hF hb
    refine ⟨_, 1, fun _ => pcells ⟨id, permit, p, a, r, []⟩ (.slice a1 p.list.length c1) (.slice a2 a.list.length c2) (.slice a3 r.list.length c3) nilV, rfl, Nat.le_refl _, by simp, fun i x h => ?_, fun i x h => ?_⟩
    rotate_left
    · rcases i with _ | i
      · simp only [List.getElem?_cons_zero, Option.some.injEq] at h
        subst h
        exact ⟨_, _, _, _, rfl, ⟨kkp, kka, kkr⟩, up0.mono hF, ua0.mono hF, ur0.mono hF, none, 0, fun _ => [], rfl, Nat.le_refl _, by simp, fun i p h => by simp at h, fun i p h => by simp at h⟩
      · simp at h
    · rcases i with _ | i
      · simp only [List.getElem?_cons_zero, Option.some.injEq] at h
        subst h
        exact ⟨b, 0, _, _, _, rfl, hb, by simp [pcells, scells], by simp [pcells, scells]⟩
      · simp at h
  have hq : wtQ [⟨id, permit, p, a, r, []⟩] ≤ 1048576 := by simp [wtQ, wtP]; omega
  refine pureV_of_svc mixed Tryd.func5 low5 (Nat.le_of_ble_eq_true rfl) (fun w0 => ?_)
  unfold scells
  simp (disch := first | assumption | exact Ne.symm (by assumption) | omega) only [fu5, ↓ZD, ZU, ZR, Za, Zb, Zc, Zd, Ze, Zf, Zg, Zh, Zi, Zj, Zk, Zl, Zm, Zn, Zo, Zp, Zq, Zr, reduceIte, reduceCtorEq, Zs, Zt, Zu, Zv]
  refine NewB.of fun b1 hb1 hF1 => ?_
  simp (disch := first | assumption | exact Ne.symm (by assumption) | omega) only [hF1, ↓ZD, ZU, ZR, Za, Zb, Zc, Zd, Ze, Zf, Zg, Zh, Zi, Zj, Zk, Zl, Zm, Zn, Zo, Zp, Zq, Zr, reduceIte, reduceCtorEq, Zs, Zt, Zu, Zv]
  refine NewB.of fun b2 hb2 hF2 => ?_
  simp only [List.forall_mem_cons, List.not_mem_nil, false_implies, implies_true, and_true] at hb2
  simp (disch := first | assumption | exact Ne.symm (by assumption) | omega) only [hF1, hF2, ↓ZD, ZU, ZR, Za, Zb, Zc, Zd, Ze, Zf, Zg, Zh, Zi, Zj, Zk, Zl, Zm, Zn, Zo, Zp, Zq, Zr, reduceIte, reduceCtorEq, Zs, Zt, Zu, Zv]
  refine NewB.of fun b3 hb3 hF3 => ?_
  simp only [List.forall_mem_cons, List.not_mem_nil, false_implies, implies_true, and_true] at hb3
  obtain ⟨hb32, hb31⟩ := hb3
  simp (disch := first | assumption | exact Ne.symm (by assumption) | omega) only [hF1, hF2, hF3, ↓ZD, ZU, ZR, Za, Zb, Zc, Zd, Ze, Zf, Zg, Zh, Zi, Zj, Zk, Zl, Zm, Zn, Zo, Zp, Zq, Zr, reduceIte, reduceCtorEq, Zs, Zt, Zu, Zv]
  refine CallE.pure pa ?_
  simp (disch := first | assumption | exact Ne.symm (by assumption) | omega) only [hF1, hF2, hF3, ↓ZD, ZU, ZR, Za, Zb, Zc, Zd, Ze, Zf, Zg, Zh, Zi, Zj, Zk, Zl, Zm, Zn, Zo, Zp, Zq, Zr, reduceIte, reduceCtorEq, Zs, Zt, Zu, Zv]
  refine fun _ => ?_
  refine NewB.of fun b4 hb4 hF4 => ?_
  simp (disch := first | assumption | exact Ne.symm (by assumption) | omega) only [hF4, ↓ZD, ZU, ZR, Za, Zb, Zc, Zd, Ze, Zf, Zg, Zh, Zi, Zj, Zk, Zl, Zm, Zn, Zo, Zp, Zq, Zr, reduceIte, reduceCtorEq, Zs, Zt, Zu, Zv]
  refine CallE.pureH (policies_pure (hM.mono le_up) (hS.mono le_up) (key _ b4 le_up (by simp [rdObj, hF4, lk, pcells, scells])) hq) ?_
  simp (disch := first | assumption | exact Ne.symm (by assumption) | omega) only [↓ZD, ZU, ZR, Za, Zb, Zc, Zd, Ze, Zf, Zg, Zh, Zi, Zj, Zk, Zl, Zm, Zn, Zo, Zp, Zq, Zr, reduceIte, reduceCtorEq, Zs, Zt, Zu, Zv]
  refine CallE.pureH (rpolicies_pure (key _ b4 le_up (by simp [rdObj, hF4, lk, pcells, scells])) hq) ?_
  simp (disch := first | assumption | exact Ne.symm (by assumption) | omega) only [↓ZD, ZU, ZR, Za, Zb, Zc, Zd, Ze, Zf, Zg, Zh, Zi, Zj, Zk, Zl, Zm, Zn, Zo, Zp, Zq, Zr, reduceIte, reduceCtorEq, Zs, Zt, Zu, Zv]
set_option maxHeartbeats 4000000 in
theorem policies_law {F : Base} (hM : HasM F) (hS : HasSigns F) {v : Value} {l : List Pol} (h : RepPols F v l) (hw : wtQ l ≤ 1048576) : PureV Tryd.prog F 4 #[v] (.bool true) := by
  have pa := awake_pure hM hS
  have p1 := policies_pure hM hS h hw
  have p2 := rpolicies_pure h hw
  obtain ⟨al, cl, gl, rfl, hcl, hll, hc1, hc2⟩ := h
  refine pureV_of_svc mixed Tryd.func4 low4 (Nat.le_of_ble_eq_true rfl) (fun w0 => ?_)
  simp (disch := first | assumption | exact Ne.symm (by assumption) | omega) only [fu4, ↓ZD, ZU, ZR, Za, Zb, Zc, Zd, Ze, Zf, Zg, Zh, Zi, Zj, Zk, Zl, Zm, Zn, Zo, Zp, Zq, Zr, reduceIte, reduceCtorEq, Zs, Zt, Zu, Zv]
  refine CallE.pure pa ?_
  simp (disch := first | assumption | exact Ne.symm (by assumption) | omega) only [↓ZD, ZU, ZR, Za, Zb, Zc, Zd, Ze, Zf, Zg, Zh, Zi, Zj, Zk, Zl, Zm, Zn, Zo, Zp, Zq, Zr, reduceIte, reduceCtorEq, Zs, Zt, Zu, Zv]
  refine fun _ => ?_
  refine LoopL.inv (α := Nat) (fun i => i ≤ l.length)
    (fun i => [(0, some (.slice al l.length cl)), (4, some (.int .i64 i))])
    (fun i => []) (fun i => l.length - i) 0 (Nat.zero_le _) (by (simp only [Le_nil, Le_cons]; simp (disch := first | assumption | exact Ne.symm (by assumption) | omega) only [↓ZD, ZU, ZR, Za, Zb, Zc, Zd, Ze, Zf, Zg, Zh, Zi, Zj, Zk, Zl, Zm, Zn, Zo, Zp, Zq, Zr, reduceIte, reduceCtorEq, Zs, Zt, Zu, Zv]; try trivial)) trivial ?_
  rintro i hi
  by_cases hlt : i < l.length
  · have hd : decide ((i : Int) < (l.length : Int)) = true := by simp; omega
    have gx : l[i]? = some (l.getD i nilP) := getDs _ hlt
    generalize l.getD i nilP = x at gx
    have hcm := wtQ_mem (List.mem_of_getElem? gx)
    have hP : wtP x = x.id.length + wtS x.p + wtS x.a + wtS x.r + (x.conds.map fun c => wt c.2).sum := rfl
    obtain ⟨vp, va, vr, vc, e1, -, ⟨a1, c1, rfl, -⟩, ⟨a2, c2, rfl, -⟩, ⟨a3, c3, rfl, -⟩, ⟨ac, cc0, gc, rfl, hcc, hcl2, hd1, hd2⟩⟩ := hc2 i x gx
    obtain ⟨ba, oa, rfl, hA, hB⟩ := (hc1 i x gx).all
    rw [e1] at hB
    have kp : ∀ H, ldV F H 1 false (.pointer (some ⟨ba, oa + i * 21 + 2 + 5, none⟩)) = _ := hB 7 (by omega)
    have ka : ∀ H, ldV F H 1 false (.pointer (some ⟨ba, oa + i * 21 + 8 + 5, none⟩)) = _ := hB 13 (by omega)
    have kr : ∀ H, ldV F H 1 false (.pointer (some ⟨ba, oa + i * 21 + 14 + 5, none⟩)) = _ := hB 19 (by omega)
    have kc := hB 20 (by omega)
    simp only [pcells, scells, List.cons_append, List.nil_append, List.getD_cons_succ, List.getD_cons_zero] at kp ka kr kc
    simp (disch := first | assumption | exact Ne.symm (by assumption) | omega) only [hd, Nat.mul_one, ↓ZD, ZU, ZR, Za, Zb, Zc, Zd, Ze, Zf, Zg, Zh, Zi, Zj, Zk, Zl, Zm, Zn, Zo, Zp, Zq, Zr, reduceIte, reduceCtorEq, Zs, Zt, Zu, Zv]
    refine conj.of (by omega) ?_
    simp (disch := first | assumption | exact Ne.symm (by assumption) | omega) only [hd, Int.toNat_natCast, Nat.mul_one, ↓kp, ↓ka, ↓kr, ↓kc, ↓ZD, ZU, ZR, Za, Zb, Zc, Zd, Ze, Zf, Zg, Zh, Zi, Zj, Zk, Zl, Zm, Zn, Zo, Zp, Zq, Zr, reduceIte, reduceCtorEq, Zs, Zt, Zu, Zv]
    repeat (refine conj.of (by intros; omega) ?_; simp (disch := first | assumption | exact Ne.symm (by assumption) | omega) only [hd, Int.toNat_natCast, Nat.mul_one, ↓kp, ↓ka, ↓kr, ↓kc, ↓ZD, ZU, ZR, Za, Zb, Zc, Zd, Ze, Zf, Zg, Zh, Zi, Zj, Zk, Zl, Zm, Zn, Zo, Zp, Zq, Zr, reduceIte, reduceCtorEq, Zs, Zt, Zu, Zv])
    refine fun _ => ?_
    refine LoopL.inv (α := Nat) (fun k => k ≤ x.conds.length)
      (fun k => [(0, some (.slice (some ⟨ba, oa, none⟩) l.length cl)), (4, some (.int .i64 i)), (5, some (.int .i64 k))])
      (fun k => []) (fun k => x.conds.length - k) 0 (Nat.zero_le _) (by (simp only [Le_nil, Le_cons]; simp (disch := first | assumption | exact Ne.symm (by assumption) | omega) only [↓ZD, ZU, ZR, Za, Zb, Zc, Zd, Ze, Zf, Zg, Zh, Zi, Zj, Zk, Zl, Zm, Zn, Zo, Zp, Zq, Zr, reduceIte, reduceCtorEq, Zs, Zt, Zu, Zv]; try trivial)) trivial ?_
    rintro k hk
    by_cases hltk : k < x.conds.length
    · have hdk : decide ((k : Int) < (x.conds.length : Int)) = true := by simp; omega
      have gk : x.conds[k]? = some (x.conds.getD k (false, nilX)) := getDs _ hltk
      generalize x.conds.getD k (false, nilX) = c at gk
      have hcmk := sumC_mem (List.mem_of_getElem? gk)
      have pf := few_pure F (hd2 k c gk) 0 (by decide)
      have ps := size_pure' F (hd2 k c gk) (by omega)
      obtain ⟨bc, oc, rfl, hAc, hBc⟩ := (hd1 k c gk).all
      have kx := hAc 1 12 (by omega)
      have hcl12 : (gc k).length = 12 := by have := (hd1 k c gk).len; simpa using this
      simp only [List.drop_succ_cons, List.drop_zero, List.take_of_length_le (Nat.le_of_eq hcl12)] at kx
      simp (disch := first | assumption | exact Ne.symm (by assumption) | omega) only [hd, Int.toNat_natCast, Nat.mul_one, ↓kp, ↓ka, ↓kr, ↓kc, hdk, ↓kx, ↓ZD, ZU, ZR, Za, Zb, Zc, Zd, Ze, Zf, Zg, Zh, Zi, Zj, Zk, Zl, Zm, Zn, Zo, Zp, Zq, Zr, reduceIte, reduceCtorEq, Zs, Zt, Zu, Zv]
      repeat (refine conj.of (by intros; omega) ?_; simp (disch := first | assumption | exact Ne.symm (by assumption) | omega) only [hd, Int.toNat_natCast, Nat.mul_one, ↓kp, ↓ka, ↓kr, ↓kc, hdk, ↓kx, ↓ZD, ZU, ZR, Za, Zb, Zc, Zd, Ze, Zf, Zg, Zh, Zi, Zj, Zk, Zl, Zm, Zn, Zo, Zp, Zq, Zr, reduceIte, reduceCtorEq, Zs, Zt, Zu, Zv])
      refine CallE.pure pf ?_
      cases hfe : fewB c.2 0 with
      | false =>
        simp (disch := first | assumption | exact Ne.symm (by assumption) | omega) only [hd, Int.toNat_natCast, Nat.mul_one, ↓kp, ↓ka, ↓kr, ↓kc, hdk, ↓kx, ↓ZD, ZU, ZR, Za, Zb, Zc, Zd, Ze, Zf, Zg, Zh, Zi, Zj, Zk, Zl, Zm, Zn, Zo, Zp, Zq, Zr, reduceIte, reduceCtorEq, Zs, Zt, Zu, Zv]
        refine CallQ.of (.int .i64 0) trivial ?_
        simp (disch := first | assumption | exact Ne.symm (by assumption) | omega) only [↓ZD, ZU, ZR, Za, Zb, Zc, Zd, Ze, Zf, Zg, Zh, Zi, Zj, Zk, Zl, Zm, Zn, Zo, Zp, Zq, Zr, reduceIte, reduceCtorEq, Zs, Zt, Zu, Zv]
      | true =>
        simp (disch := first | assumption | exact Ne.symm (by assumption) | omega) only [hd, Int.toNat_natCast, Nat.mul_one, ↓kp, ↓ka, ↓kr, ↓kc, hdk, ↓kx, ↓ZD, ZU, ZR, Za, Zb, Zc, Zd, Ze, Zf, Zg, Zh, Zi, Zj, Zk, Zl, Zm, Zn, Zo, Zp, Zq, Zr, reduceIte, reduceCtorEq, Zs, Zt, Zu, Zv]
        repeat (refine conj.of (by intros; omega) ?_; simp (disch := first | assumption | exact Ne.symm (by assumption) | omega) only [hd, Int.toNat_natCast, Nat.mul_one, ↓kp, ↓ka, ↓kr, ↓kc, hdk, ↓kx, ↓ZD, ZU, ZR, Za, Zb, Zc, Zd, Ze, Zf, Zg, Zh, Zi, Zj, Zk, Zl, Zm, Zn, Zo, Zp, Zq, Zr, reduceIte, reduceCtorEq, Zs, Zt, Zu, Zv])
        refine CallQ.of _ ps.up ?_
        simp (disch := first | assumption | exact Ne.symm (by assumption) | omega) only [hd, Int.toNat_natCast, Nat.mul_one, ↓kp, ↓ka, ↓kr, ↓kc, hdk, ↓kx, ↓ZD, ZU, ZR, Za, Zb, Zc, Zd, Ze, Zf, Zg, Zh, Zi, Zj, Zk, Zl, Zm, Zn, Zo, Zp, Zq, Zr, reduceIte, reduceCtorEq, Zs, Zt, Zu, Zv]
        refine fun _ => ?_
        refine invK.on (k + 1) ?_ ?_ ?_ ?_
        · omega
        · show x.conds.length - (k + 1) < x.conds.length - k; omega
        · simp only [Le_nil, Le_cons]; simp (disch := first | assumption | exact Ne.symm (by assumption) | omega) only [↓ZD, ZU, ZR, Za, Zb, Zc, Zd, Ze, Zf, Zg, Zh, Zi, Zj, Zk, Zl, Zm, Zn, Zo, Zp, Zq, Zr, reduceIte, reduceCtorEq, Zs, Zt, Zu, Zv]; first | done | trivial | rfl
        · exact trivial
    · have hdk : decide ((k : Int) < (x.conds.length : Int)) = false := by simp; omega
      simp (disch := first | assumption | exact Ne.symm (by assumption) | omega) only [hd, Int.toNat_natCast, Nat.mul_one, ↓kp, ↓ka, ↓kr, ↓kc, hdk, ↓ZD, ZU, ZR, Za, Zb, Zc, Zd, Ze, Zf, Zg, Zh, Zi, Zj, Zk, Zl, Zm, Zn, Zo, Zp, Zq, Zr, reduceIte, reduceCtorEq, Zs, Zt, Zu, Zv]
      repeat (refine conj.of (by intros; omega) ?_; simp (disch := first | assumption | exact Ne.symm (by assumption) | omega) only [hd, Int.toNat_natCast, Nat.mul_one, ↓kp, ↓ka, ↓kr, ↓kc, hdk, ↓ZD, ZU, ZR, Za, Zb, Zc, Zd, Ze, Zf, Zg, Zh, Zi, Zj, Zk, Zl, Zm, Zn, Zo, Zp, Zq, Zr, reduceIte, reduceCtorEq, Zs, Zt, Zu, Zv])
      refine invK.on (i + 1) ?_ ?_ ?_ ?_
      · omega
      · show l.length - (i + 1) < l.length - i; omega
      · simp only [Le_nil, Le_cons]; simp (disch := first | assumption | exact Ne.symm (by assumption) | omega) only [↓ZD, ZU, ZR, Za, Zb, Zc, Zd, Ze, Zf, Zg, Zh, Zi, Zj, Zk, Zl, Zm, Zn, Zo, Zp, Zq, Zr, reduceIte, reduceCtorEq, Zs, Zt, Zu, Zv]; first | done | trivial | rfl
      · exact trivial
  · have hd : decide ((i : Int) < (l.length : Int)) = false := by simp; omega
    simp (disch := first | assumption | exact Ne.symm (by assumption) | omega) only [hd, ↓ZD, ZU, ZR, Za, Zb, Zc, Zd, Ze, Zf, Zg, Zh, Zi, Zj, Zk, Zl, Zm, Zn, Zo, Zp, Zq, Zr, reduceIte, reduceCtorEq, Zs, Zt, Zu, Zv]
    refine CallE.pure p1 ?_
    simp (disch := first | assumption | exact Ne.symm (by assumption) | omega) only [↓ZD, ZU, ZR, Za, Zb, Zc, Zd, Ze, Zf, Zg, Zh, Zi, Zj, Zk, Zl, Zm, Zn, Zo, Zp, Zq, Zr, reduceIte, reduceCtorEq, Zs, Zt, Zu, Zv]
    refine CallE.pure p2 ?_
    simp (disch := first | assumption | exact Ne.symm (by assumption) | omega) only [↓ZD, ZU, ZR, Za, Zb, Zc, Zd, Ze, Zf, Zg, Zh, Zi, Zj, Zk, Zl, Zm, Zn, Zo, Zp, Zq, Zr, reduceIte, reduceCtorEq, Zs, Zt, Zu, Zv]
end Go.Proofs.YtoelfmmfjebabaaDoor
