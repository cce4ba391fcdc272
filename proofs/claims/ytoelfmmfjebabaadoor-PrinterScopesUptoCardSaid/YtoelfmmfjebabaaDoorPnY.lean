/- Layer 10: the document's examples. -/
import Derived.Test.YtoelfmmfjebabaaDoorPnX
namespace Go.Proofs.YtoelfmmfjebabaaDoor
open Go Go.Eng
open Int renaming reduceEq → Za, reduceToNat → Zm, reduceLE → Zn, reduceLT → Zo, reduceAdd → Zp, reduceSub → Zq, reduceNeg → Zr, reducePow → Zt, reduceNegSucc → Zv
open UInt8 renaming reduceOfNat → Zb
open List renaming mapM_cons → Zc, mapM_nil → Zd
open Nat renaming reduceAdd → Ze, reduceMul → Zf, reduceMod → Zg, reduceDiv → Zh, reduceEqDiff → Zi, reduceBEq → Zj, reduceLeDiff → Zk, reduceSub → Zl, reducePow → Zs, reduceLT → Zu
set_option linter.unusedSimpArgs false
set_option linter.unusedVariables false
set_option maxRecDepth 20000

abbrev nilV : Value := .slice none 0 0
def leaf (op : Int) (v : LV) (nm : Str) : List Value := xcells op v nilV nilV nm nilV nilV
theorem slsNil (F : Base) : SlS F nilV [] := ⟨none, 0, rfl, Nat.le_refl _, by decide, fun i s h => by simp at h, fun i s h => by simp at h⟩
theorem leafX (F : Base) {op : Int} {v : LV} {nm : Str} (h1 : I64 op) (h2 : I64 v.kind) (h3 : I64 v.n) : RepX F (leaf op v nm) (.mk op v nm [] []) :=
  .mk op v nilV nilV nm none 0 [] (fun _ => []) nilV [] ⟨⟨_, _, _, rfl⟩, _, _, _, rfl⟩ h1 h2 h3 (by decide) (by decide) (fun i t h => by simp at h) (fun i t h => by simp at h) (slsNil F)
theorem nodeX (F : Base) {op : Int} {v : LV} {nm : Str} {b T : Nat} {kids : List Ex'} {g : Nat → List Value} {cs : List Value} (h1 : I64 op) (h2 : I64 v.kind) (h3 : I64 v.n) (hl : kids.length ≤ 1000) (hb : F b = some (.cells cs.toArray T (0, 0)))
    (hc : ∀ (i : Nat) (t : Ex'), kids[i]? = some t → i * 12 + 12 ≤ cs.length ∧ (cs.drop (i * 12)).take 12 = g i) (hr : ∀ (i : Nat) (t : Ex'), kids[i]? = some t → RepX F (g i) t) :
    RepX F (xcells op v nilV nilV nm (.slice (some ⟨b, 0, none⟩) kids.length kids.length) nilV) (.mk op v nm kids []) :=
  .mk op v nilV nilV nm _ _ kids g nilV [] ⟨⟨_, _, _, rfl⟩, _, _, _, rfl⟩ h1 h2 h3 (by omega) (Nat.le_refl _) (fun i t h => ⟨b, 0, _, _, _, rfl, hb, by simpa using (hc i t h).1, by simpa using (hc i t h).2⟩) hr (slsNil F)
def numL (n : Int) : LV := ⟨2, false, n, [], [], []⟩
theorem num_pure (F : Base) (n : Int) : PureV Tryd.prog F 13 #[.int .i64 n] (.agg (leaf 1 (numL n) []).toArray) := by
  refine pureV_of_svc mixed Tryd.func13 low13 (Nat.le_of_ble_eq_true rfl) (fun w0 => ?_)
  simp (disch := first | assumption | exact Ne.symm (by assumption) | omega) only [fu13, ↓ZD, ZU, ZR, Za, Zb, Zc, Zd, Ze, Zf, Zg, Zh, Zi, Zj, Zk, Zl, Zm, Zn, Zo, Zp, Zq, Zr, reduceIte, reduceCtorEq, Zs, Zt, Zu, Zv]
  refine NewB.of fun b1 hb1 hF1 => ?_
  simp (disch := first | assumption | exact Ne.symm (by assumption) | omega) only [hF1, ↓ZD, ZU, ZR, Za, Zb, Zc, Zd, Ze, Zf, Zg, Zh, Zi, Zj, Zk, Zl, Zm, Zn, Zo, Zp, Zq, Zr, reduceIte, reduceCtorEq, Zs, Zt, Zu, Zv]
  rfl
def v0 : LV := ⟨0, false, 0, [], [], []⟩
def n1 : Ex' := .mk 1 (numL 1) [] [] []
def n2 : Ex' := .mk 1 (numL 2) [] [] []
def eqA : Ex' := .mk 8 v0 [] [n1, n2] []
def exA : Ex' := .mk 6 v0 [] [eqA] []
def trB : Ex' := .mk 1 ⟨1, true, 0, [], [], []⟩ [] [] []
def ntB : Ex' := .mk 6 v0 [] [trB] []
def exB : Ex' := .mk 18 v0 [120] [ntB] []
def exC : Ex' := .mk 1 (numL (-1)) [] [] []
def polA : Pol := ⟨[97], true, nilS, nilS, nilS, []⟩
theorem sh1 : shows 1 = [49] := by unfold shows; rw [if_neg (by decide), digs_lt (by decide)]; rfl
theorem sh2 : shows 2 = [50] := by unfold shows; rw [if_neg (by decide), digs_lt (by decide)]; rfl
theorem exA_ptx : ptx exA = ([33, 40, 49, 32, 61, 61, 32, 50, 41], 0) := by
  simp [ptx, exA, eqA, n1, n2, v0, numL, depX, depXL, okX, okL, arOk, kidsI, nodeOk, litOk, pt, ptL, nodeT, isTwo, litT, sh1, sh2, signT]
theorem exB_ptx : ptx exB = ([40, 33, 116, 114, 117, 101, 41, 46, 120], 0) := by
  have hn : nameB [120] = true := by decide +kernel
  simp [ptx, exB, ntB, trB, v0, depX, depXL, okX, okL, arOk, kidsI, nodeOk, litOk, pt, ptL, nodeT, isTwo, litT, own1, hn, Ex'.op]
theorem exC_ptx : ptx exC = ([], 1) := by
  simp [ptx, exC, numL, depX, depXL, okX, okL, arOk, kidsI, nodeOk, litOk]
theorem polA_pols : pols [polA] = ([64, 105, 100, 40, 34, 97, 34, 41, 32, 112, 101, 114, 109, 105, 116, 40, 112, 114, 105, 110, 99, 105, 112, 97, 108, 44, 32, 97, 99, 116, 105, 111, 110, 44, 32, 114, 101, 115, 111, 117, 114, 99, 101, 41, 59, 10], 0) := by
  have hq : quote [97] = [34, 97, 34] := by decide +kernel
  simp [pols, polsE, polE, polA, polOk, scopeOk, midOk, nilS, condsE, polsT, polTx, headT, hq, scopeT, midT, condsT, prN, actN, reN]
theorem i64s : ∀ n : Int, -100 ≤ n → n ≤ 100 → I64 n := fun n h1 h2 => by unfold I64; omega
theorem nodeX1 (F : Base) {op : Int} {v : LV} {nm : Str} {b T : Nat} {x : Ex'} {cs : List Value} (h1 : I64 op) (h2 : I64 v.kind) (h3 : I64 v.n) (hb : F b = some (.cells cs.toArray T (0, 0))) (hc : cs.length = 12) (hr : RepX F cs x) :
    RepX F (xcells op v nilV nilV nm (.slice (some ⟨b, 0, none⟩) 1 1) nilV) (.mk op v nm [x] []) :=
  nodeX F (kids := [x]) (g := fun _ => cs) h1 h2 h3 (by simp) hb (fun i t h => by
    rcases i with _ | i
    · exact ⟨by omega, by rw [Nat.zero_mul, List.drop_zero, List.take_of_length_le (by omega)]⟩
    · simp at h) (fun i t h => by
    rcases i with _ | i
    · simp only [List.getElem?_cons_zero, Option.some.injEq] at h; subst h; exact hr
    · simp at h)
theorem nodeX2 (F : Base) {op : Int} {v : LV} {nm : Str} {b T : Nat} {x y : Ex'} {cs ds : List Value} (h1 : I64 op) (h2 : I64 v.kind) (h3 : I64 v.n) (hb : F b = some (.cells (cs ++ ds).toArray T (0, 0))) (hc : cs.length = 12) (hd : ds.length = 12) (hr : RepX F cs x) (hs : RepX F ds y) :
    RepX F (xcells op v nilV nilV nm (.slice (some ⟨b, 0, none⟩) 2 2) nilV) (.mk op v nm [x, y] []) :=
  nodeX F (kids := [x, y]) (g := fun i => if i = 0 then cs else ds) h1 h2 h3 (by simp) hb (fun i t h => by
    rcases i with _ | _ | i
    · exact ⟨by simp; omega, by rw [Nat.zero_mul, List.drop_zero, List.take_append_of_le_length (by omega), List.take_of_length_le (by omega)]; rfl⟩
    · exact ⟨by simp; omega, by rw [show (0 + 1) * 12 = cs.length by omega, List.drop_left, List.take_of_length_le (by omega)]; rfl⟩
    · simp at h) (fun i t h => by
    rcases i with _ | _ | i
    · simp only [List.getElem?_cons_zero, Option.some.injEq] at h; subst h; exact hr
    · simp at h; subst h; exact hs
    · simp at h)
theorem exA_rep (G : Base) {b1 b2 : Nat} (h1 : G b1 = some (.cells (leaf 1 (numL 1) [] ++ leaf 1 (numL 2) []).toArray 30 (0, 0))) (h2 : G b2 = some (.cells (xcells 8 v0 nilV nilV [] (.slice (some ⟨b1, 0, none⟩) 2 2) nilV).toArray 30 (0, 0))) :
    RepX G (xcells 6 v0 nilV nilV [] (.slice (some ⟨b2, 0, none⟩) 1 1) nilV) exA :=
  nodeX1 G (i64s _ (by decide) (by decide)) (i64s _ (by decide) (by decide)) (i64s _ (by decide) (by decide)) h2 rfl
    (nodeX2 G (i64s _ (by decide) (by decide)) (i64s _ (by decide) (by decide)) (i64s _ (by decide) (by decide)) h1 rfl rfl
      (leafX G (i64s _ (by decide) (by decide)) (i64s _ (by decide) (by decide)) (i64s _ (by decide) (by decide))) (leafX G (i64s _ (by decide) (by decide)) (i64s _ (by decide) (by decide)) (i64s _ (by decide) (by decide))))
theorem exB_rep (G : Base) {b1 b2 : Nat} (h1 : G b1 = some (.cells (leaf 1 ⟨1, true, 0, [], [], []⟩ []).toArray 30 (0, 0))) (h2 : G b2 = some (.cells (xcells 6 v0 nilV nilV [] (.slice (some ⟨b1, 0, none⟩) 1 1) nilV).toArray 30 (0, 0))) :
    RepX G (xcells 18 v0 nilV nilV [120] (.slice (some ⟨b2, 0, none⟩) 1 1) nilV) exB :=
  nodeX1 G (i64s _ (by decide) (by decide)) (i64s _ (by decide) (by decide)) (i64s _ (by decide) (by decide)) h2 rfl
    (nodeX1 G (i64s _ (by decide) (by decide)) (i64s _ (by decide) (by decide)) (i64s _ (by decide) (by decide)) h1 rfl
      (leafX G (i64s _ (by decide) (by decide)) (i64s _ (by decide) (by decide)) (i64s _ (by decide) (by decide))))
theorem exC_rep (G : Base) : RepX G (leaf 1 (numL (-1)) []) exC := leafX G (i64s _ (by decide) (by decide)) (i64s _ (by decide) (by decide)) (i64s _ (by decide) (by decide))
theorem polA_rep (G : Base) {b1 : Nat} (h1 : G b1 = some (.cells (pcells polA nilV nilV nilV nilV).toArray 44 (0, 0))) : RepPols G (.slice (some ⟨b1, 0, none⟩) 1 1) [polA] := by
  have hu : RepU G nilV nilS.list := ⟨none, 0, rfl, Nat.le_refl _, by decide, fun i p h => by simp [nilS] at h⟩
  have hk : I64 nilS.kind := i64s _ (by decide) (by decide)
  refine ⟨_, 1, fun _ => pcells polA nilV nilV nilV nilV, rfl, Nat.le_refl _, by decide, fun i x h => ?_, fun i x h => ?_⟩
  · rcases i with _ | i
    · exact ⟨b1, 0, _, _, _, rfl, h1, by simp [pcells, scells], by simp [pcells, scells]⟩
    · simp at h
  · rcases i with _ | i
    · simp only [List.getElem?_cons_zero, Option.some.injEq] at h
      subst h
      exact ⟨nilV, nilV, nilV, nilV, rfl, ⟨hk, hk, hk⟩, hu, hu, hu, none, 0, fun _ => [], rfl, Nat.le_refl _, by decide, fun i p h => by simp [polA] at h, fun i p h => by simp [polA] at h⟩
    · simp at h
set_option maxHeartbeats 4000000 in
theorem awake_pure {F : Base} (hM : HasM F) (hS : HasSigns F) : PureV Tryd.prog F 6 #[] (.bool true) := by
  refine pureV_of_svc (args := []) mixed Tryd.func6 low6 (Nat.le_of_ble_eq_true rfl) (fun w0 => ?_)
  have k1 := num_pure F 1
  have k2 := num_pure F 2
  have k3 := fun F' => num_pure F' (-1)
  simp only [leaf, xcells, numL, nilV] at k1 k2 k3
  simp (disch := first | assumption | exact Ne.symm (by assumption) | omega) only [fu6, ↓ZD, ZU, ZR, Za, Zb, Zc, Zd, Ze, Zf, Zg, Zh, Zi, Zj, Zk, Zl, Zm, Zn, Zo, Zp, Zq, Zr, reduceIte, reduceCtorEq, Zs, Zt, Zu, Zv]
  refine CallE.pure k1 ?_
  simp (disch := first | assumption | exact Ne.symm (by assumption) | omega) only [↓ZD, ZU, ZR, Za, Zb, Zc, Zd, Ze, Zf, Zg, Zh, Zi, Zj, Zk, Zl, Zm, Zn, Zo, Zp, Zq, Zr, reduceIte, reduceCtorEq, Zs, Zt, Zu, Zv]
  refine CallE.pure k2 ?_
  simp (disch := first | assumption | exact Ne.symm (by assumption) | omega) only [↓ZD, ZU, ZR, Za, Zb, Zc, Zd, Ze, Zf, Zg, Zh, Zi, Zj, Zk, Zl, Zm, Zn, Zo, Zp, Zq, Zr, reduceIte, reduceCtorEq, Zs, Zt, Zu, Zv]
  refine NewB.of fun b1 hb1 hF1 => ?_
  simp (disch := first | assumption | exact Ne.symm (by assumption) | omega) only [hF1, ↓ZD, ZU, ZR, Za, Zb, Zc, Zd, Ze, Zf, Zg, Zh, Zi, Zj, Zk, Zl, Zm, Zn, Zo, Zp, Zq, Zr, reduceIte, reduceCtorEq, Zs, Zt, Zu, Zv]
  refine NewB.of fun b2 hb2 hF2 => ?_
  simp only [List.forall_mem_cons, List.not_mem_nil, false_implies, implies_true, and_true] at hb2
  simp (disch := first | assumption | exact Ne.symm (by assumption) | omega) only [hF1, hF2, ↓ZD, ZU, ZR, Za, Zb, Zc, Zd, Ze, Zf, Zg, Zh, Zi, Zj, Zk, Zl, Zm, Zn, Zo, Zp, Zq, Zr, reduceIte, reduceCtorEq, Zs, Zt, Zu, Zv]
  have pA := pexpr_pure (hM.mono (le_up (H := [(b2, .cells (xcells 8 v0 nilV nilV [] (.slice (some ⟨b1, 0, none⟩) 2 2) nilV).toArray 30 (0, 0)), (b1, .cells (leaf 1 (numL 1) [] ++ leaf 1 (numL 2) []).toArray 30 (0, 0))]))) (hS.mono le_up) (exA_rep _ (b1 := b1) (b2 := b2) (by simp [rdObj, hF1, lk, Ne.symm hb2]) (by simp [rdObj, hF2, lk])) (by decide +kernel)
  rw [exA_ptx] at pA
  refine CallE.pureH pA ?_
  simp (disch := first | assumption | exact Ne.symm (by assumption) | omega) only [↓ZD, ZU, ZR, Za, Zb, Zc, Zd, Ze, Zf, Zg, Zh, Zi, Zj, Zk, Zl, Zm, Zn, Zo, Zp, Zq, Zr, reduceIte, reduceCtorEq, Zs, Zt, Zu, Zv]
  refine NewB.of fun b3 hb3 hF3 => ?_
  simp only [List.forall_mem_cons, List.not_mem_nil, false_implies, implies_true, and_true] at hb3
  obtain ⟨hb32, hb31⟩ := hb3
  simp (disch := first | assumption | exact Ne.symm (by assumption) | omega) only [hF1, hF2, hF3, ↓ZD, ZU, ZR, Za, Zb, Zc, Zd, Ze, Zf, Zg, Zh, Zi, Zj, Zk, Zl, Zm, Zn, Zo, Zp, Zq, Zr, reduceIte, reduceCtorEq, Zs, Zt, Zu, Zv]
  refine NewB.of fun b4 hb4 hF4 => ?_
  simp only [List.forall_mem_cons, List.not_mem_nil, false_implies, implies_true, and_true] at hb4
  obtain ⟨hb43, hb42, hb41⟩ := hb4
  simp (disch := first | assumption | exact Ne.symm (by assumption) | omega) only [hF1, hF2, hF3, hF4, ↓ZD, ZU, ZR, Za, Zb, Zc, Zd, Ze, Zf, Zg, Zh, Zi, Zj, Zk, Zl, Zm, Zn, Zo, Zp, Zq, Zr, reduceIte, reduceCtorEq, Zs, Zt, Zu, Zv]
  have pB := pexpr_pure (hM.mono (le_up (H := [(b4, .cells (xcells 6 v0 nilV nilV [] (.slice (some ⟨b3, 0, none⟩) 1 1) nilV).toArray 30 (0, 0)), (b3, .cells (leaf 1 ⟨1, true, 0, [], [], []⟩ []).toArray 30 (0, 0)), (b2, .cells (xcells 8 v0 nilV nilV [] (.slice (some ⟨b1, 0, none⟩) 2 2) nilV).toArray 30 (0, 0)), (b1, .cells (leaf 1 (numL 1) [] ++ leaf 1 (numL 2) []).toArray 30 (0, 0))]))) (hS.mono le_up) (exB_rep _ (b1 := b3) (b2 := b4) (by simp [rdObj, hF3, lk, Ne.symm hb43]) (by simp [rdObj, hF4, lk])) (by decide +kernel)
  rw [exB_ptx] at pB
  refine CallE.pureH pB ?_
  simp (disch := first | assumption | exact Ne.symm (by assumption) | omega) only [↓ZD, ZU, ZR, Za, Zb, Zc, Zd, Ze, Zf, Zg, Zh, Zi, Zj, Zk, Zl, Zm, Zn, Zo, Zp, Zq, Zr, reduceIte, reduceCtorEq, Zs, Zt, Zu, Zv]
  refine CallE.pureH (k3 _) ?_
  simp (disch := first | assumption | exact Ne.symm (by assumption) | omega) only [↓ZD, ZU, ZR, Za, Zb, Zc, Zd, Ze, Zf, Zg, Zh, Zi, Zj, Zk, Zl, Zm, Zn, Zo, Zp, Zq, Zr, reduceIte, reduceCtorEq, Zs, Zt, Zu, Zv]
  have pC := pexpr_pure (hM.mono (le_up (H := [(b4, .cells (xcells 6 v0 nilV nilV [] (.slice (some ⟨b3, 0, none⟩) 1 1) nilV).toArray 30 (0, 0)), (b3, .cells (leaf 1 ⟨1, true, 0, [], [], []⟩ []).toArray 30 (0, 0)), (b2, .cells (xcells 8 v0 nilV nilV [] (.slice (some ⟨b1, 0, none⟩) 2 2) nilV).toArray 30 (0, 0)), (b1, .cells (leaf 1 (numL 1) [] ++ leaf 1 (numL 2) []).toArray 30 (0, 0))]))) (hS.mono le_up) (exC_rep _) (by decide +kernel)
  rw [exC_ptx] at pC
  refine CallE.pureH pC ?_
  simp (disch := first | assumption | exact Ne.symm (by assumption) | omega) only [↓ZD, ZU, ZR, Za, Zb, Zc, Zd, Ze, Zf, Zg, Zh, Zi, Zj, Zk, Zl, Zm, Zn, Zo, Zp, Zq, Zr, reduceIte, reduceCtorEq, Zs, Zt, Zu, Zv]
  refine NewB.of fun b5 hb5 hF5 => ?_
  simp (disch := first | assumption | exact Ne.symm (by assumption) | omega) only [hF5, ↓ZD, ZU, ZR, Za, Zb, Zc, Zd, Ze, Zf, Zg, Zh, Zi, Zj, Zk, Zl, Zm, Zn, Zo, Zp, Zq, Zr, reduceIte, reduceCtorEq, Zs, Zt, Zu, Zv]
  have pD := policies_pure (hM.mono (le_up (H := [(b5, .cells (pcells polA nilV nilV nilV nilV).toArray 44 (0, 0)), (b4, .cells (xcells 6 v0 nilV nilV [] (.slice (some ⟨b3, 0, none⟩) 1 1) nilV).toArray 30 (0, 0)), (b3, .cells (leaf 1 ⟨1, true, 0, [], [], []⟩ []).toArray 30 (0, 0)), (b2, .cells (xcells 8 v0 nilV nilV [] (.slice (some ⟨b1, 0, none⟩) 2 2) nilV).toArray 30 (0, 0)), (b1, .cells (leaf 1 (numL 1) [] ++ leaf 1 (numL 2) []).toArray 30 (0, 0))]))) (hS.mono le_up) (polA_rep _ (b1 := b5) (by simp [rdObj, hF5, lk])) (by decide +kernel)
  rw [polA_pols] at pD
  refine CallE.pureH pD ?_
  simp (disch := first | assumption | exact Ne.symm (by assumption) | omega) only [↓ZD, ZU, ZR, Za, Zb, Zc, Zd, Ze, Zf, Zg, Zh, Zi, Zj, Zk, Zl, Zm, Zn, Zo, Zp, Zq, Zr, reduceIte, reduceCtorEq, Zs, Zt, Zu, Zv]
end Go.Proofs.YtoelfmmfjebabaaDoor
