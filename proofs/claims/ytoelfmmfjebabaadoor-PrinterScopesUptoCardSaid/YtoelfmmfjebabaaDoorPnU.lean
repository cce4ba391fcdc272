/- Layer 10: scopes, of the reference. -/
import Derived.Test.YtoelfmmfjebabaaDoorPnT
namespace Go.Proofs.YtoelfmmfjebabaaDoor
open Go Go.Eng
open Int renaming reduceEq → Za, reduceToNat → Zm, reduceLE → Zn, reduceLT → Zo, reduceAdd → Zp, reduceSub → Zq, reduceNeg → Zr, reducePow → Zt, reduceNegSucc → Zv
open UInt8 renaming reduceOfNat → Zb
open List renaming mapM_cons → Zc, mapM_nil → Zd
open Nat renaming reduceAdd → Ze, reduceMul → Zf, reduceMod → Zg, reduceDiv → Zh, reduceEqDiff → Zi, reduceBEq → Zj, reduceLeDiff → Zk, reduceSub → Zl, reducePow → Zs, reduceLT → Zu
set_option linter.unusedSimpArgs false
set_option linter.unusedVariables false
set_option maxRecDepth 20000

/-- A scope's text, of the reference. -/
def rscT (x : Scp) (nm : Str) : Str :=
  if nm = actN ∧ x.slot = true then [] else if x.kind = 0 then nm else if x.kind = 1 then nm ++ ([32, 61, 61, 32] ++ placeT x nm) else if x.kind = 2 then nm ++ ([32, 105, 110, 32] ++ placeT x nm)
  else if x.kind = 3 then nm ++ ([32, 105, 115, 32] ++ x.ty) else if x.kind = 4 then nm ++ ([32, 105, 115, 32] ++ (x.ty ++ ([32, 105, 110, 32] ++ placeT x nm)))
  else nm ++ ([32, 105, 110, 32, 91] ++ (rowT ahQ 0 (uidsT x.list) ++ [93]))
theorem rscT_ok {x : Scp} {nm : Str} (h : scopeOk x nm = true) : rscT x nm = scopeT x nm := by
  unfold scopeOk midOk at h
  unfold rscT scopeT midT
  by_cases h0 : nm = actN
  · subst h0
    cases hs : x.slot
    · rw [if_neg (by simp)]
      by_cases k0 : x.kind = 0
      · simp [k0]
      by_cases k1 : x.kind = 1
      · simp [k1]
      by_cases k2 : x.kind = 2
      · simp [k2]
      by_cases k5 : x.kind = 5
      · simp [k5]
      · simp [k0, k1, k2, k5] at h
    · simp [hs] at h
  · by_cases k0 : x.kind = 0
    · simp [k0, h0]
    by_cases k1 : x.kind = 1
    · simp [k1, h0]
    by_cases k2 : x.kind = 2
    · simp [k2, h0]
    by_cases k3 : x.kind = 3
    · simp [k3, h0]
    by_cases k4 : x.kind = 4
    · simp [k4, h0]
    simp [k0, k1, k2, k3, k4, h0] at h
set_option maxHeartbeats 4000000 in
theorem rscope_pure (F : Base) {cs : List Value} {x : Scp} (hx : RepSc F cs x) (nm : Str) (hw : wtS x ≤ 1048576) (hn : nm.length ≤ 100) :
    PureV Tryd.prog F 20 #[.agg cs.toArray, .string (bs nm)] (.tuple #[.string (bs (rscT x nm)), .bool (scopeOk x nm)]) := by
  generalize hT : rscT x nm = T
  generalize hO : scopeOk x nm = O
  unfold rscT placeT at hT
  unfold scopeOk midOk placeOk at hO
  obtain ⟨v, rfl, hk, a, c, rfl, hc, hln, hh⟩ := hx
  obtain ⟨kind, ty, ut, ui, slot, l⟩ := x
  have hut := uidT_len ut ui
  simp only [wtS] at hw hk hc hln hh hT hO
  have hru := fun F' : Base => ruid_pure F' ut ui (by unfold Sm; omega) (by unfold Sm; omega)
  have hrp := fun F' : Base => rpath10_pure F' ty (by unfold Sm; omega)
  refine pureV_of_svc mixed Tryd.func20 low20 (Nat.le_of_ble_eq_true rfl) (fun w0 => ?_)
  unfold scells
  cases hact : (nm == actN) with
  | true =>
    cases slot with
    | true =>
      have hact' : (nm == [97, 99, 116, 105, 111, 110]) = true := hact
      have hna : nm = actN := by simpa using hact
      simp (disch := first | assumption | exact Ne.symm (by assumption) | omega) only [hact', fu20, Int.reduceBEq, ↓ZD, ZU, ZR, Za, Zb, Zc, Zd, Ze, Zf, Zg, Zh, Zi, Zj, Zk, Zl, Zm, Zn, Zo, Zp, Zq, Zr, reduceIte, reduceCtorEq, Zs, Zt, Zu, Zv]
      refine NewB.of fun b3 hb3 hF3 => ?_
      simp (disch := first | assumption | exact Ne.symm (by assumption) | omega) only [hact', hF3, Int.reduceBEq, ↓ZD, ZU, ZR, Za, Zb, Zc, Zd, Ze, Zf, Zg, Zh, Zi, Zj, Zk, Zl, Zm, Zn, Zo, Zp, Zq, Zr, reduceIte, reduceCtorEq, Zs, Zt, Zu, Zv]
      refine CallE.pure (hru _) ?_
      simp (disch := first | assumption | exact Ne.symm (by assumption) | omega) only [hact', hF3, Int.reduceBEq, ↓ZD, ZU, ZR, Za, Zb, Zc, Zd, Ze, Zf, Zg, Zh, Zi, Zj, Zk, Zl, Zm, Zn, Zo, Zp, Zq, Zr, reduceIte, reduceCtorEq, Zs, Zt, Zu, Zv]
      repeat (refine conj.of (by (try simp only [List.length_append, List.length_cons, List.length_nil]); omega) ?_; simp (disch := first | assumption | exact Ne.symm (by assumption) | omega) only [hact', hF3, Int.reduceBEq, ↓ZD, ZU, ZR, Za, Zb, Zc, Zd, Ze, Zf, Zg, Zh, Zi, Zj, Zk, Zl, Zm, Zn, Zo, Zp, Zq, Zr, reduceIte, reduceCtorEq, Zs, Zt, Zu, Zv])
      simp [← hT, ← hO, hna]
    | false =>
      have hact' : (nm == [97, 99, 116, 105, 111, 110]) = true := hact
      have hna : nm = actN := by simpa using hact
      simp (disch := first | assumption | exact Ne.symm (by assumption) | omega) only [hact', fu20, Int.reduceBEq, ↓ZD, ZU, ZR, Za, Zb, Zc, Zd, Ze, Zf, Zg, Zh, Zi, Zj, Zk, Zl, Zm, Zn, Zo, Zp, Zq, Zr, reduceIte, reduceCtorEq, Zs, Zt, Zu, Zv]
      refine NewB.of fun b3 hb3 hF3 => ?_
      simp (disch := first | assumption | exact Ne.symm (by assumption) | omega) only [hact', hF3, Int.reduceBEq, ↓ZD, ZU, ZR, Za, Zb, Zc, Zd, Ze, Zf, Zg, Zh, Zi, Zj, Zk, Zl, Zm, Zn, Zo, Zp, Zq, Zr, reduceIte, reduceCtorEq, Zs, Zt, Zu, Zv]
      refine CallE.pure (hru _) ?_
      simp (disch := first | assumption | exact Ne.symm (by assumption) | omega) only [hact', hF3, Int.reduceBEq, ↓ZD, ZU, ZR, Za, Zb, Zc, Zd, Ze, Zf, Zg, Zh, Zi, Zj, Zk, Zl, Zm, Zn, Zo, Zp, Zq, Zr, reduceIte, reduceCtorEq, Zs, Zt, Zu, Zv]
      repeat (refine conj.of (by (try simp only [List.length_append, List.length_cons, List.length_nil]); omega) ?_; simp (disch := first | assumption | exact Ne.symm (by assumption) | omega) only [hact', hF3, Int.reduceBEq, ↓ZD, ZU, ZR, Za, Zb, Zc, Zd, Ze, Zf, Zg, Zh, Zi, Zj, Zk, Zl, Zm, Zn, Zo, Zp, Zq, Zr, reduceIte, reduceCtorEq, Zs, Zt, Zu, Zv])
      by_cases k0 : kind = 0
      · have e0 : (kind == 0) = true := by simpa using k0
        simp (disch := first | assumption | exact Ne.symm (by assumption) | omega) only [hact', hF3, e0, Int.reduceBEq, ↓ZD, ZU, ZR, Za, Zb, Zc, Zd, Ze, Zf, Zg, Zh, Zi, Zj, Zk, Zl, Zm, Zn, Zo, Zp, Zq, Zr, reduceIte, reduceCtorEq, Zs, Zt, Zu, Zv]
        repeat (refine conj.of (by (try simp only [List.length_append, List.length_cons, List.length_nil]); omega) ?_; simp (disch := first | assumption | exact Ne.symm (by assumption) | omega) only [hact', hF3, e0, Int.reduceBEq, ↓ZD, ZU, ZR, Za, Zb, Zc, Zd, Ze, Zf, Zg, Zh, Zi, Zj, Zk, Zl, Zm, Zn, Zo, Zp, Zq, Zr, reduceIte, reduceCtorEq, Zs, Zt, Zu, Zv])
        simp [← hT, ← hO, hna, k0]
      have e0 : (kind == 0) = false := by simpa using k0
      by_cases k1 : kind = 1
      · have e1 : (kind == 1) = true := by simpa using k1
        simp (disch := first | assumption | exact Ne.symm (by assumption) | omega) only [hact', hF3, e0, e1, Int.reduceBEq, ↓ZD, ZU, ZR, Za, Zb, Zc, Zd, Ze, Zf, Zg, Zh, Zi, Zj, Zk, Zl, Zm, Zn, Zo, Zp, Zq, Zr, reduceIte, reduceCtorEq, Zs, Zt, Zu, Zv]
        repeat (refine conj.of (by (try simp only [List.length_append, List.length_cons, List.length_nil]); omega) ?_; simp (disch := first | assumption | exact Ne.symm (by assumption) | omega) only [hact', hF3, e0, e1, Int.reduceBEq, ↓ZD, ZU, ZR, Za, Zb, Zc, Zd, Ze, Zf, Zg, Zh, Zi, Zj, Zk, Zl, Zm, Zn, Zo, Zp, Zq, Zr, reduceIte, reduceCtorEq, Zs, Zt, Zu, Zv])
        simp [← hT, ← hO, hna, k0, k1]
      have e1 : (kind == 1) = false := by simpa using k1
      by_cases k2 : kind = 2
      · have e2 : (kind == 2) = true := by simpa using k2
        simp (disch := first | assumption | exact Ne.symm (by assumption) | omega) only [hact', hF3, e0, e1, e2, Int.reduceBEq, ↓ZD, ZU, ZR, Za, Zb, Zc, Zd, Ze, Zf, Zg, Zh, Zi, Zj, Zk, Zl, Zm, Zn, Zo, Zp, Zq, Zr, reduceIte, reduceCtorEq, Zs, Zt, Zu, Zv]
        repeat (refine conj.of (by (try simp only [List.length_append, List.length_cons, List.length_nil]); omega) ?_; simp (disch := first | assumption | exact Ne.symm (by assumption) | omega) only [hact', hF3, e0, e1, e2, Int.reduceBEq, ↓ZD, ZU, ZR, Za, Zb, Zc, Zd, Ze, Zf, Zg, Zh, Zi, Zj, Zk, Zl, Zm, Zn, Zo, Zp, Zq, Zr, reduceIte, reduceCtorEq, Zs, Zt, Zu, Zv])
        simp [← hT, ← hO, hna, k0, k1, k2]
      have e2 : (kind == 2) = false := by simpa using k2
      by_cases k3 : kind = 3
      · have e3 : (kind == 3) = true := by simpa using k3
        simp (disch := first | assumption | exact Ne.symm (by assumption) | omega) only [hact', hF3, e0, e1, e2, e3, Int.reduceBEq, ↓ZD, ZU, ZR, Za, Zb, Zc, Zd, Ze, Zf, Zg, Zh, Zi, Zj, Zk, Zl, Zm, Zn, Zo, Zp, Zq, Zr, reduceIte, reduceCtorEq, Zs, Zt, Zu, Zv]
        repeat (refine conj.of (by (try simp only [List.length_append, List.length_cons, List.length_nil]); omega) ?_; simp (disch := first | assumption | exact Ne.symm (by assumption) | omega) only [hact', hF3, e0, e1, e2, e3, Int.reduceBEq, ↓ZD, ZU, ZR, Za, Zb, Zc, Zd, Ze, Zf, Zg, Zh, Zi, Zj, Zk, Zl, Zm, Zn, Zo, Zp, Zq, Zr, reduceIte, reduceCtorEq, Zs, Zt, Zu, Zv])
        refine CallQ.of _ (hrp _) ?_
        simp (disch := first | assumption | exact Ne.symm (by assumption) | omega) only [hact', hF3, e0, e1, e2, e3, Int.reduceBEq, ↓ZD, ZU, ZR, Za, Zb, Zc, Zd, Ze, Zf, Zg, Zh, Zi, Zj, Zk, Zl, Zm, Zn, Zo, Zp, Zq, Zr, reduceIte, reduceCtorEq, Zs, Zt, Zu, Zv]
        repeat (refine conj.of (by (try simp only [List.length_append, List.length_cons, List.length_nil]); omega) ?_; simp (disch := first | assumption | exact Ne.symm (by assumption) | omega) only [hact', hF3, e0, e1, e2, e3, Int.reduceBEq, ↓ZD, ZU, ZR, Za, Zb, Zc, Zd, Ze, Zf, Zg, Zh, Zi, Zj, Zk, Zl, Zm, Zn, Zo, Zp, Zq, Zr, reduceIte, reduceCtorEq, Zs, Zt, Zu, Zv])
        cases hpt : okPath ty <;> simp [← hT, ← hO, hna, k0, k1, k2, k3, hpt]
      have e3 : (kind == 3) = false := by simpa using k3
      by_cases k4 : kind = 4
      · have e4 : (kind == 4) = true := by simpa using k4
        simp (disch := first | assumption | exact Ne.symm (by assumption) | omega) only [hact', hF3, e0, e1, e2, e3, e4, Int.reduceBEq, ↓ZD, ZU, ZR, Za, Zb, Zc, Zd, Ze, Zf, Zg, Zh, Zi, Zj, Zk, Zl, Zm, Zn, Zo, Zp, Zq, Zr, reduceIte, reduceCtorEq, Zs, Zt, Zu, Zv]
        repeat (refine conj.of (by (try simp only [List.length_append, List.length_cons, List.length_nil]); omega) ?_; simp (disch := first | assumption | exact Ne.symm (by assumption) | omega) only [hact', hF3, e0, e1, e2, e3, e4, Int.reduceBEq, ↓ZD, ZU, ZR, Za, Zb, Zc, Zd, Ze, Zf, Zg, Zh, Zi, Zj, Zk, Zl, Zm, Zn, Zo, Zp, Zq, Zr, reduceIte, reduceCtorEq, Zs, Zt, Zu, Zv])
        refine CallQ.of _ (fun _ => hrp _) ?_
        simp (disch := first | assumption | exact Ne.symm (by assumption) | omega) only [hact', hF3, e0, e1, e2, e3, e4, Int.reduceBEq, ↓ZD, ZU, ZR, Za, Zb, Zc, Zd, Ze, Zf, Zg, Zh, Zi, Zj, Zk, Zl, Zm, Zn, Zo, Zp, Zq, Zr, reduceIte, reduceCtorEq, Zs, Zt, Zu, Zv]
        repeat (refine conj.of (by (try simp only [List.length_append, List.length_cons, List.length_nil]); omega) ?_; simp (disch := first | assumption | exact Ne.symm (by assumption) | omega) only [hact', hF3, e0, e1, e2, e3, e4, Int.reduceBEq, ↓ZD, ZU, ZR, Za, Zb, Zc, Zd, Ze, Zf, Zg, Zh, Zi, Zj, Zk, Zl, Zm, Zn, Zo, Zp, Zq, Zr, reduceIte, reduceCtorEq, Zs, Zt, Zu, Zv])
        cases hpt : okPath ty <;> cases hpu : okPath ut <;> simp [← hT, ← hO, hna, k0, k1, k2, k3, k4, hpt, hpu]
      have e4 : (kind == 4) = false := by simpa using k4
      by_cases k5 : kind = 5
      · have e5 : (kind == 5) = true := by simpa using k5
        simp (disch := first | assumption | exact Ne.symm (by assumption) | omega) only [hact', hF3, e0, e1, e2, e3, e4, e5, Int.reduceBEq, ↓ZD, ZU, ZR, Za, Zb, Zc, Zd, Ze, Zf, Zg, Zh, Zi, Zj, Zk, Zl, Zm, Zn, Zo, Zp, Zq, Zr, reduceIte, reduceCtorEq, Zs, Zt, Zu, Zv]
        repeat (refine conj.of (by (try simp only [List.length_append, List.length_cons, List.length_nil]); omega) ?_; simp (disch := first | assumption | exact Ne.symm (by assumption) | omega) only [hact', hF3, e0, e1, e2, e3, e4, e5, Int.reduceBEq, ↓ZD, ZU, ZR, Za, Zb, Zc, Zd, Ze, Zf, Zg, Zh, Zi, Zj, Zk, Zl, Zm, Zn, Zo, Zp, Zq, Zr, reduceIte, reduceCtorEq, Zs, Zt, Zu, Zv])
        refine LoopL.inv (α := Nat) (fun i => i ≤ l.length)
          (fun i => [(2, some (.pointer (some ⟨b3, 0, none⟩))), (9, some (.string (bs (nm ++ [32, 105, 110, 32, 91] ++ rowT ahQ 0 ((uidsT l).take i))))), (10, some (.bool ((l.take i).all fun p => okPath p.1))), (11, some (.int .i64 i))])
          (fun i => [(b3, .cells #[Value.int IntKind.i64 kind, Value.string (bs ty), Value.string (bs ut), Value.string (bs ui), Value.bool false, Value.slice a l.length c] 41 (0, 0))]) (fun i => l.length - i) 0 (Nat.zero_le _) (by simp only [Le_nil, Le_cons, List.take_zero, rowT]; simp (disch := first | assumption | exact Ne.symm (by assumption) | omega) only [↓ZD, ZU, ZR, Za, Zb, Zc, Zd, Ze, Zf, Zg, Zh, Zi, Zj, Zk, Zl, Zm, Zn, Zo, Zp, Zq, Zr, reduceIte, reduceCtorEq, Zs, Zt, Zu, Zv]; try (first | done | rfl | simp)) (by simp only [HLe_nil, HLe_cons]; simp (disch := first | assumption | exact Ne.symm (by assumption) | omega) only [↓ZD, ZU, ZR, Za, Zb, Zc, Zd, Ze, Zf, Zg, Zh, Zi, Zj, Zk, Zl, Zm, Zn, Zo, Zp, Zq, Zr, reduceIte, reduceCtorEq, Zs, Zt, Zu, Zv]) ?_
        rintro i hi
        have hue := uids_len l
        have hql := rowQ_len (uidsT l)
        have hul : (uidsT l).length = l.length := by simp [uidsT]
        by_cases hlt : i < l.length
        · have hd : decide ((i : Int) < (l.length : Int)) = true := by simp; omega
          have gx : l[i]? = some (l.getD i ([], [])) := getDs _ hlt
          generalize l.getD i ([], []) = p at gx
          have gu : (uidsT l)[i]? = some (uidT p.1 p.2) := by simp [uidsT, gx]
          have hps := sumP_mem (List.mem_of_getElem? gx)
          have hru2 := fun F' : Base => ruid_pure F' p.1 p.2 (by unfold Sm; omega) (by unfold Sm; omega)
          have hle := rowT_take_le ahQ (uidsT l) (i + 1)
          have e9 := rowT_take ahQ gu
          rw [e9] at hle
          simp only [List.length_append] at hle
          obtain ⟨ba, oa, rfl, hla⟩ := (hh i p gx).ldn
          have e10 : ((l.take (i + 1)).all fun p => okPath p.1) = (((l.take i).all fun p => okPath p.1) && okPath p.1) := by
            rw [take_snoc gx, List.all_append]; simp
          by_cases h0 : 0 < i
          · have hz : decide ((0 : Int) < (i : Int)) = true := by simp; omega
            rw [if_pos h0] at hle
            simp only [List.length_cons, List.length_nil, ahQ] at hle
            simp (disch := first | assumption | exact Ne.symm (by assumption) | omega) only [hact', hF3, e0, e1, e2, e3, e4, e5, hd, hz, ↓hla, Int.toNat_natCast, Nat.mul_one, Int.reduceBEq, ↓ZD, ZU, ZR, Za, Zb, Zc, Zd, Ze, Zf, Zg, Zh, Zi, Zj, Zk, Zl, Zm, Zn, Zo, Zp, Zq, Zr, reduceIte, reduceCtorEq, Zs, Zt, Zu, Zv]
            repeat (refine conj.of (by (try simp only [List.length_append, List.length_cons, List.length_nil]); omega) ?_; simp (disch := first | assumption | exact Ne.symm (by assumption) | omega) only [hact', hF3, e0, e1, e2, e3, e4, e5, hd, hz, ↓hla, Int.toNat_natCast, Nat.mul_one, Int.reduceBEq, ↓ZD, ZU, ZR, Za, Zb, Zc, Zd, Ze, Zf, Zg, Zh, Zi, Zj, Zk, Zl, Zm, Zn, Zo, Zp, Zq, Zr, reduceIte, reduceCtorEq, Zs, Zt, Zu, Zv])
            refine CallE.pure (hru2 _) ?_
            simp (disch := first | assumption | exact Ne.symm (by assumption) | omega) only [hact', hF3, e0, e1, e2, e3, e4, e5, hd, hz, ↓hla, Int.toNat_natCast, Nat.mul_one, Int.reduceBEq, ↓ZD, ZU, ZR, Za, Zb, Zc, Zd, Ze, Zf, Zg, Zh, Zi, Zj, Zk, Zl, Zm, Zn, Zo, Zp, Zq, Zr, reduceIte, reduceCtorEq, Zs, Zt, Zu, Zv]
            repeat (refine conj.of (by (try simp only [List.length_append, List.length_cons, List.length_nil]); omega) ?_; simp (disch := first | assumption | exact Ne.symm (by assumption) | omega) only [hact', hF3, e0, e1, e2, e3, e4, e5, hd, hz, ↓hla, Int.toNat_natCast, Nat.mul_one, Int.reduceBEq, ↓ZD, ZU, ZR, Za, Zb, Zc, Zd, Ze, Zf, Zg, Zh, Zi, Zj, Zk, Zl, Zm, Zn, Zo, Zp, Zq, Zr, reduceIte, reduceCtorEq, Zs, Zt, Zu, Zv])
            refine invK.on (i + 1) (by omega) (by omega) ?_ ?_
            · simp only [Le_nil, Le_cons, e9, if_pos h0, e10]; simp (disch := first | assumption | exact Ne.symm (by assumption) | omega) only [↓ZD, ZU, ZR, Za, Zb, Zc, Zd, Ze, Zf, Zg, Zh, Zi, Zj, Zk, Zl, Zm, Zn, Zo, Zp, Zq, Zr, reduceIte, reduceCtorEq, Zs, Zt, Zu, Zv]; simp [ahQ]
            · simp only [HLe_nil, HLe_cons]; simp (disch := first | assumption | exact Ne.symm (by assumption) | omega) only [↓ZD, ZU, ZR, Za, Zb, Zc, Zd, Ze, Zf, Zg, Zh, Zi, Zj, Zk, Zl, Zm, Zn, Zo, Zp, Zq, Zr, reduceIte, reduceCtorEq, Zs, Zt, Zu, Zv]
          · have hz : decide ((0 : Int) < (i : Int)) = false := by simp; omega
            rw [if_neg h0] at hle
            simp only [List.length_cons, List.length_nil, ahQ] at hle
            simp (disch := first | assumption | exact Ne.symm (by assumption) | omega) only [hact', hF3, e0, e1, e2, e3, e4, e5, hd, hz, ↓hla, Int.toNat_natCast, Nat.mul_one, Int.reduceBEq, ↓ZD, ZU, ZR, Za, Zb, Zc, Zd, Ze, Zf, Zg, Zh, Zi, Zj, Zk, Zl, Zm, Zn, Zo, Zp, Zq, Zr, reduceIte, reduceCtorEq, Zs, Zt, Zu, Zv]
            repeat (refine conj.of (by (try simp only [List.length_append, List.length_cons, List.length_nil]); omega) ?_; simp (disch := first | assumption | exact Ne.symm (by assumption) | omega) only [hact', hF3, e0, e1, e2, e3, e4, e5, hd, hz, ↓hla, Int.toNat_natCast, Nat.mul_one, Int.reduceBEq, ↓ZD, ZU, ZR, Za, Zb, Zc, Zd, Ze, Zf, Zg, Zh, Zi, Zj, Zk, Zl, Zm, Zn, Zo, Zp, Zq, Zr, reduceIte, reduceCtorEq, Zs, Zt, Zu, Zv])
            refine CallE.pure (hru2 _) ?_
            simp (disch := first | assumption | exact Ne.symm (by assumption) | omega) only [hact', hF3, e0, e1, e2, e3, e4, e5, hd, hz, ↓hla, Int.toNat_natCast, Nat.mul_one, Int.reduceBEq, ↓ZD, ZU, ZR, Za, Zb, Zc, Zd, Ze, Zf, Zg, Zh, Zi, Zj, Zk, Zl, Zm, Zn, Zo, Zp, Zq, Zr, reduceIte, reduceCtorEq, Zs, Zt, Zu, Zv]
            repeat (refine conj.of (by (try simp only [List.length_append, List.length_cons, List.length_nil]); omega) ?_; simp (disch := first | assumption | exact Ne.symm (by assumption) | omega) only [hact', hF3, e0, e1, e2, e3, e4, e5, hd, hz, ↓hla, Int.toNat_natCast, Nat.mul_one, Int.reduceBEq, ↓ZD, ZU, ZR, Za, Zb, Zc, Zd, Ze, Zf, Zg, Zh, Zi, Zj, Zk, Zl, Zm, Zn, Zo, Zp, Zq, Zr, reduceIte, reduceCtorEq, Zs, Zt, Zu, Zv])
            refine invK.on (i + 1) (by omega) (by omega) ?_ ?_
            · simp only [Le_nil, Le_cons, e9, if_neg h0, e10]; simp (disch := first | assumption | exact Ne.symm (by assumption) | omega) only [↓ZD, ZU, ZR, Za, Zb, Zc, Zd, Ze, Zf, Zg, Zh, Zi, Zj, Zk, Zl, Zm, Zn, Zo, Zp, Zq, Zr, reduceIte, reduceCtorEq, Zs, Zt, Zu, Zv]; simp [ahQ]
            · simp only [HLe_nil, HLe_cons]; simp (disch := first | assumption | exact Ne.symm (by assumption) | omega) only [↓ZD, ZU, ZR, Za, Zb, Zc, Zd, Ze, Zf, Zg, Zh, Zi, Zj, Zk, Zl, Zm, Zn, Zo, Zp, Zq, Zr, reduceIte, reduceCtorEq, Zs, Zt, Zu, Zv]
        · have hd : decide ((i : Int) < (l.length : Int)) = false := by simp; omega
          obtain rfl : i = l.length := by omega
          rw [List.take_of_length_le (l := uidsT l) (by omega), List.take_length]
          simp (disch := first | assumption | exact Ne.symm (by assumption) | omega) only [hact', hF3, e0, e1, e2, e3, e4, e5, hd, Int.reduceBEq, ↓ZD, ZU, ZR, Za, Zb, Zc, Zd, Ze, Zf, Zg, Zh, Zi, Zj, Zk, Zl, Zm, Zn, Zo, Zp, Zq, Zr, reduceIte, reduceCtorEq, Zs, Zt, Zu, Zv]
          repeat (refine conj.of (by (try simp only [List.length_append, List.length_cons, List.length_nil]); omega) ?_; simp (disch := first | assumption | exact Ne.symm (by assumption) | omega) only [hact', hF3, e0, e1, e2, e3, e4, e5, hd, Int.reduceBEq, ↓ZD, ZU, ZR, Za, Zb, Zc, Zd, Ze, Zf, Zg, Zh, Zi, Zj, Zk, Zl, Zm, Zn, Zo, Zp, Zq, Zr, reduceIte, reduceCtorEq, Zs, Zt, Zu, Zv])
          simp [← hT, ← hO, hna, k0, k1, k2, k3, k4, k5]
      have e5 : (kind == 5) = false := by simpa using k5
      simp (disch := first | assumption | exact Ne.symm (by assumption) | omega) only [hact', hF3, e0, e1, e2, e3, e4, e5, Int.reduceBEq, ↓ZD, ZU, ZR, Za, Zb, Zc, Zd, Ze, Zf, Zg, Zh, Zi, Zj, Zk, Zl, Zm, Zn, Zo, Zp, Zq, Zr, reduceIte, reduceCtorEq, Zs, Zt, Zu, Zv]
      repeat (refine conj.of (by (try simp only [List.length_append, List.length_cons, List.length_nil]); omega) ?_; simp (disch := first | assumption | exact Ne.symm (by assumption) | omega) only [hact', hF3, e0, e1, e2, e3, e4, e5, Int.reduceBEq, ↓ZD, ZU, ZR, Za, Zb, Zc, Zd, Ze, Zf, Zg, Zh, Zi, Zj, Zk, Zl, Zm, Zn, Zo, Zp, Zq, Zr, reduceIte, reduceCtorEq, Zs, Zt, Zu, Zv])
      refine LoopL.inv (α := Nat) (fun i => i ≤ l.length)
        (fun i => [(2, some (.pointer (some ⟨b3, 0, none⟩))), (9, some (.string (bs (nm ++ [32, 105, 110, 32, 91] ++ rowT ahQ 0 ((uidsT l).take i))))), (10, some (.bool false)), (11, some (.int .i64 i))])
        (fun i => [(b3, .cells #[Value.int IntKind.i64 kind, Value.string (bs ty), Value.string (bs ut), Value.string (bs ui), Value.bool false, Value.slice a l.length c] 41 (0, 0))]) (fun i => l.length - i) 0 (Nat.zero_le _) (by simp only [Le_nil, Le_cons, List.take_zero, rowT]; simp (disch := first | assumption | exact Ne.symm (by assumption) | omega) only [↓ZD, ZU, ZR, Za, Zb, Zc, Zd, Ze, Zf, Zg, Zh, Zi, Zj, Zk, Zl, Zm, Zn, Zo, Zp, Zq, Zr, reduceIte, reduceCtorEq, Zs, Zt, Zu, Zv]; try (first | done | rfl | simp)) (by simp only [HLe_nil, HLe_cons]; simp (disch := first | assumption | exact Ne.symm (by assumption) | omega) only [↓ZD, ZU, ZR, Za, Zb, Zc, Zd, Ze, Zf, Zg, Zh, Zi, Zj, Zk, Zl, Zm, Zn, Zo, Zp, Zq, Zr, reduceIte, reduceCtorEq, Zs, Zt, Zu, Zv]) ?_
      rintro i hi
      have hue := uids_len l
      have hql := rowQ_len (uidsT l)
      have hul : (uidsT l).length = l.length := by simp [uidsT]
      by_cases hlt : i < l.length
      · have hd : decide ((i : Int) < (l.length : Int)) = true := by simp; omega
        have gx : l[i]? = some (l.getD i ([], [])) := getDs _ hlt
        generalize l.getD i ([], []) = p at gx
        have gu : (uidsT l)[i]? = some (uidT p.1 p.2) := by simp [uidsT, gx]
        have hps := sumP_mem (List.mem_of_getElem? gx)
        have hru2 := fun F' : Base => ruid_pure F' p.1 p.2 (by unfold Sm; omega) (by unfold Sm; omega)
        have hle := rowT_take_le ahQ (uidsT l) (i + 1)
        have e9 := rowT_take ahQ gu
        rw [e9] at hle
        simp only [List.length_append] at hle
        obtain ⟨ba, oa, rfl, hla⟩ := (hh i p gx).ldn
        by_cases h0 : 0 < i
        · have hz : decide ((0 : Int) < (i : Int)) = true := by simp; omega
          rw [if_pos h0] at hle
          simp only [List.length_cons, List.length_nil, ahQ] at hle
          simp (disch := first | assumption | exact Ne.symm (by assumption) | omega) only [hact', hF3, e0, e1, e2, e3, e4, e5, hd, hz, ↓hla, Int.toNat_natCast, Nat.mul_one, Int.reduceBEq, ↓ZD, ZU, ZR, Za, Zb, Zc, Zd, Ze, Zf, Zg, Zh, Zi, Zj, Zk, Zl, Zm, Zn, Zo, Zp, Zq, Zr, reduceIte, reduceCtorEq, Zs, Zt, Zu, Zv]
          repeat (refine conj.of (by (try simp only [List.length_append, List.length_cons, List.length_nil]); omega) ?_; simp (disch := first | assumption | exact Ne.symm (by assumption) | omega) only [hact', hF3, e0, e1, e2, e3, e4, e5, hd, hz, ↓hla, Int.toNat_natCast, Nat.mul_one, Int.reduceBEq, ↓ZD, ZU, ZR, Za, Zb, Zc, Zd, Ze, Zf, Zg, Zh, Zi, Zj, Zk, Zl, Zm, Zn, Zo, Zp, Zq, Zr, reduceIte, reduceCtorEq, Zs, Zt, Zu, Zv])
          refine CallE.pure (hru2 _) ?_
          simp (disch := first | assumption | exact Ne.symm (by assumption) | omega) only [hact', hF3, e0, e1, e2, e3, e4, e5, hd, hz, ↓hla, Int.toNat_natCast, Nat.mul_one, Int.reduceBEq, ↓ZD, ZU, ZR, Za, Zb, Zc, Zd, Ze, Zf, Zg, Zh, Zi, Zj, Zk, Zl, Zm, Zn, Zo, Zp, Zq, Zr, reduceIte, reduceCtorEq, Zs, Zt, Zu, Zv]
          repeat (refine conj.of (by (try simp only [List.length_append, List.length_cons, List.length_nil]); omega) ?_; simp (disch := first | assumption | exact Ne.symm (by assumption) | omega) only [hact', hF3, e0, e1, e2, e3, e4, e5, hd, hz, ↓hla, Int.toNat_natCast, Nat.mul_one, Int.reduceBEq, ↓ZD, ZU, ZR, Za, Zb, Zc, Zd, Ze, Zf, Zg, Zh, Zi, Zj, Zk, Zl, Zm, Zn, Zo, Zp, Zq, Zr, reduceIte, reduceCtorEq, Zs, Zt, Zu, Zv])
          refine invK.on (i + 1) (by omega) (by omega) ?_ ?_
          · simp only [Le_nil, Le_cons, e9, if_pos h0]; simp (disch := first | assumption | exact Ne.symm (by assumption) | omega) only [↓ZD, ZU, ZR, Za, Zb, Zc, Zd, Ze, Zf, Zg, Zh, Zi, Zj, Zk, Zl, Zm, Zn, Zo, Zp, Zq, Zr, reduceIte, reduceCtorEq, Zs, Zt, Zu, Zv]; simp [ahQ]
          · simp only [HLe_nil, HLe_cons]; simp (disch := first | assumption | exact Ne.symm (by assumption) | omega) only [↓ZD, ZU, ZR, Za, Zb, Zc, Zd, Ze, Zf, Zg, Zh, Zi, Zj, Zk, Zl, Zm, Zn, Zo, Zp, Zq, Zr, reduceIte, reduceCtorEq, Zs, Zt, Zu, Zv]
        · have hz : decide ((0 : Int) < (i : Int)) = false := by simp; omega
          rw [if_neg h0] at hle
          simp only [List.length_cons, List.length_nil, ahQ] at hle
          simp (disch := first | assumption | exact Ne.symm (by assumption) | omega) only [hact', hF3, e0, e1, e2, e3, e4, e5, hd, hz, ↓hla, Int.toNat_natCast, Nat.mul_one, Int.reduceBEq, ↓ZD, ZU, ZR, Za, Zb, Zc, Zd, Ze, Zf, Zg, Zh, Zi, Zj, Zk, Zl, Zm, Zn, Zo, Zp, Zq, Zr, reduceIte, reduceCtorEq, Zs, Zt, Zu, Zv]
          repeat (refine conj.of (by (try simp only [List.length_append, List.length_cons, List.length_nil]); omega) ?_; simp (disch := first | assumption | exact Ne.symm (by assumption) | omega) only [hact', hF3, e0, e1, e2, e3, e4, e5, hd, hz, ↓hla, Int.toNat_natCast, Nat.mul_one, Int.reduceBEq, ↓ZD, ZU, ZR, Za, Zb, Zc, Zd, Ze, Zf, Zg, Zh, Zi, Zj, Zk, Zl, Zm, Zn, Zo, Zp, Zq, Zr, reduceIte, reduceCtorEq, Zs, Zt, Zu, Zv])
          refine CallE.pure (hru2 _) ?_
          simp (disch := first | assumption | exact Ne.symm (by assumption) | omega) only [hact', hF3, e0, e1, e2, e3, e4, e5, hd, hz, ↓hla, Int.toNat_natCast, Nat.mul_one, Int.reduceBEq, ↓ZD, ZU, ZR, Za, Zb, Zc, Zd, Ze, Zf, Zg, Zh, Zi, Zj, Zk, Zl, Zm, Zn, Zo, Zp, Zq, Zr, reduceIte, reduceCtorEq, Zs, Zt, Zu, Zv]
          repeat (refine conj.of (by (try simp only [List.length_append, List.length_cons, List.length_nil]); omega) ?_; simp (disch := first | assumption | exact Ne.symm (by assumption) | omega) only [hact', hF3, e0, e1, e2, e3, e4, e5, hd, hz, ↓hla, Int.toNat_natCast, Nat.mul_one, Int.reduceBEq, ↓ZD, ZU, ZR, Za, Zb, Zc, Zd, Ze, Zf, Zg, Zh, Zi, Zj, Zk, Zl, Zm, Zn, Zo, Zp, Zq, Zr, reduceIte, reduceCtorEq, Zs, Zt, Zu, Zv])
          refine invK.on (i + 1) (by omega) (by omega) ?_ ?_
          · simp only [Le_nil, Le_cons, e9, if_neg h0]; simp (disch := first | assumption | exact Ne.symm (by assumption) | omega) only [↓ZD, ZU, ZR, Za, Zb, Zc, Zd, Ze, Zf, Zg, Zh, Zi, Zj, Zk, Zl, Zm, Zn, Zo, Zp, Zq, Zr, reduceIte, reduceCtorEq, Zs, Zt, Zu, Zv]; simp [ahQ]
          · simp only [HLe_nil, HLe_cons]; simp (disch := first | assumption | exact Ne.symm (by assumption) | omega) only [↓ZD, ZU, ZR, Za, Zb, Zc, Zd, Ze, Zf, Zg, Zh, Zi, Zj, Zk, Zl, Zm, Zn, Zo, Zp, Zq, Zr, reduceIte, reduceCtorEq, Zs, Zt, Zu, Zv]
      · have hd : decide ((i : Int) < (l.length : Int)) = false := by simp; omega
        obtain rfl : i = l.length := by omega
        rw [List.take_of_length_le (l := uidsT l) (by omega)]
        simp (disch := first | assumption | exact Ne.symm (by assumption) | omega) only [hact', hF3, e0, e1, e2, e3, e4, e5, hd, Int.reduceBEq, ↓ZD, ZU, ZR, Za, Zb, Zc, Zd, Ze, Zf, Zg, Zh, Zi, Zj, Zk, Zl, Zm, Zn, Zo, Zp, Zq, Zr, reduceIte, reduceCtorEq, Zs, Zt, Zu, Zv]
        repeat (refine conj.of (by (try simp only [List.length_append, List.length_cons, List.length_nil]); omega) ?_; simp (disch := first | assumption | exact Ne.symm (by assumption) | omega) only [hact', hF3, e0, e1, e2, e3, e4, e5, hd, Int.reduceBEq, ↓ZD, ZU, ZR, Za, Zb, Zc, Zd, Ze, Zf, Zg, Zh, Zi, Zj, Zk, Zl, Zm, Zn, Zo, Zp, Zq, Zr, reduceIte, reduceCtorEq, Zs, Zt, Zu, Zv])
        simp [← hT, ← hO, hna, k0, k1, k2, k3, k4, k5]
  | false =>
    cases slot with
    | true =>
      have hact' : (nm == [97, 99, 116, 105, 111, 110]) = false := hact
      have hna : ¬ nm = actN := by simpa using hact
      simp (disch := first | assumption | exact Ne.symm (by assumption) | omega) only [hact', fu20, Int.reduceBEq, ↓ZD, ZU, ZR, Za, Zb, Zc, Zd, Ze, Zf, Zg, Zh, Zi, Zj, Zk, Zl, Zm, Zn, Zo, Zp, Zq, Zr, reduceIte, reduceCtorEq, Zs, Zt, Zu, Zv]
      refine NewB.of fun b3 hb3 hF3 => ?_
      simp (disch := first | assumption | exact Ne.symm (by assumption) | omega) only [hact', hF3, Int.reduceBEq, ↓ZD, ZU, ZR, Za, Zb, Zc, Zd, Ze, Zf, Zg, Zh, Zi, Zj, Zk, Zl, Zm, Zn, Zo, Zp, Zq, Zr, reduceIte, reduceCtorEq, Zs, Zt, Zu, Zv]
      refine CallE.pure (hru _) ?_
      simp (disch := first | assumption | exact Ne.symm (by assumption) | omega) only [hact', hF3, Int.reduceBEq, ↓ZD, ZU, ZR, Za, Zb, Zc, Zd, Ze, Zf, Zg, Zh, Zi, Zj, Zk, Zl, Zm, Zn, Zo, Zp, Zq, Zr, reduceIte, reduceCtorEq, Zs, Zt, Zu, Zv]
      repeat (refine conj.of (by (try simp only [List.length_append, List.length_cons, List.length_nil]); omega) ?_; simp (disch := first | assumption | exact Ne.symm (by assumption) | omega) only [hact', hF3, Int.reduceBEq, ↓ZD, ZU, ZR, Za, Zb, Zc, Zd, Ze, Zf, Zg, Zh, Zi, Zj, Zk, Zl, Zm, Zn, Zo, Zp, Zq, Zr, reduceIte, reduceCtorEq, Zs, Zt, Zu, Zv])
      by_cases k0 : kind = 0
      · have e0 : (kind == 0) = true := by simpa using k0
        simp (disch := first | assumption | exact Ne.symm (by assumption) | omega) only [hact', hF3, e0, Int.reduceBEq, ↓ZD, ZU, ZR, Za, Zb, Zc, Zd, Ze, Zf, Zg, Zh, Zi, Zj, Zk, Zl, Zm, Zn, Zo, Zp, Zq, Zr, reduceIte, reduceCtorEq, Zs, Zt, Zu, Zv]
        repeat (refine conj.of (by (try simp only [List.length_append, List.length_cons, List.length_nil]); omega) ?_; simp (disch := first | assumption | exact Ne.symm (by assumption) | omega) only [hact', hF3, e0, Int.reduceBEq, ↓ZD, ZU, ZR, Za, Zb, Zc, Zd, Ze, Zf, Zg, Zh, Zi, Zj, Zk, Zl, Zm, Zn, Zo, Zp, Zq, Zr, reduceIte, reduceCtorEq, Zs, Zt, Zu, Zv])
        simp [← hT, ← hO, hna, k0]
      have e0 : (kind == 0) = false := by simpa using k0
      by_cases k1 : kind = 1
      · have e1 : (kind == 1) = true := by simpa using k1
        simp (disch := first | assumption | exact Ne.symm (by assumption) | omega) only [hact', hF3, e0, e1, Int.reduceBEq, ↓ZD, ZU, ZR, Za, Zb, Zc, Zd, Ze, Zf, Zg, Zh, Zi, Zj, Zk, Zl, Zm, Zn, Zo, Zp, Zq, Zr, reduceIte, reduceCtorEq, Zs, Zt, Zu, Zv]
        repeat (refine conj.of (by (try simp only [List.length_append, List.length_cons, List.length_nil]); omega) ?_; simp (disch := first | assumption | exact Ne.symm (by assumption) | omega) only [hact', hF3, e0, e1, Int.reduceBEq, ↓ZD, ZU, ZR, Za, Zb, Zc, Zd, Ze, Zf, Zg, Zh, Zi, Zj, Zk, Zl, Zm, Zn, Zo, Zp, Zq, Zr, reduceIte, reduceCtorEq, Zs, Zt, Zu, Zv])
        simp [← hT, ← hO, hna, k0, k1]
      have e1 : (kind == 1) = false := by simpa using k1
      by_cases k2 : kind = 2
      · have e2 : (kind == 2) = true := by simpa using k2
        simp (disch := first | assumption | exact Ne.symm (by assumption) | omega) only [hact', hF3, e0, e1, e2, Int.reduceBEq, ↓ZD, ZU, ZR, Za, Zb, Zc, Zd, Ze, Zf, Zg, Zh, Zi, Zj, Zk, Zl, Zm, Zn, Zo, Zp, Zq, Zr, reduceIte, reduceCtorEq, Zs, Zt, Zu, Zv]
        repeat (refine conj.of (by (try simp only [List.length_append, List.length_cons, List.length_nil]); omega) ?_; simp (disch := first | assumption | exact Ne.symm (by assumption) | omega) only [hact', hF3, e0, e1, e2, Int.reduceBEq, ↓ZD, ZU, ZR, Za, Zb, Zc, Zd, Ze, Zf, Zg, Zh, Zi, Zj, Zk, Zl, Zm, Zn, Zo, Zp, Zq, Zr, reduceIte, reduceCtorEq, Zs, Zt, Zu, Zv])
        simp [← hT, ← hO, hna, k0, k1, k2]
      have e2 : (kind == 2) = false := by simpa using k2
      by_cases k3 : kind = 3
      · have e3 : (kind == 3) = true := by simpa using k3
        simp (disch := first | assumption | exact Ne.symm (by assumption) | omega) only [hact', hF3, e0, e1, e2, e3, Int.reduceBEq, ↓ZD, ZU, ZR, Za, Zb, Zc, Zd, Ze, Zf, Zg, Zh, Zi, Zj, Zk, Zl, Zm, Zn, Zo, Zp, Zq, Zr, reduceIte, reduceCtorEq, Zs, Zt, Zu, Zv]
        repeat (refine conj.of (by (try simp only [List.length_append, List.length_cons, List.length_nil]); omega) ?_; simp (disch := first | assumption | exact Ne.symm (by assumption) | omega) only [hact', hF3, e0, e1, e2, e3, Int.reduceBEq, ↓ZD, ZU, ZR, Za, Zb, Zc, Zd, Ze, Zf, Zg, Zh, Zi, Zj, Zk, Zl, Zm, Zn, Zo, Zp, Zq, Zr, reduceIte, reduceCtorEq, Zs, Zt, Zu, Zv])
        refine CallQ.of _ (hrp _) ?_
        simp (disch := first | assumption | exact Ne.symm (by assumption) | omega) only [hact', hF3, e0, e1, e2, e3, Int.reduceBEq, ↓ZD, ZU, ZR, Za, Zb, Zc, Zd, Ze, Zf, Zg, Zh, Zi, Zj, Zk, Zl, Zm, Zn, Zo, Zp, Zq, Zr, reduceIte, reduceCtorEq, Zs, Zt, Zu, Zv]
        repeat (refine conj.of (by (try simp only [List.length_append, List.length_cons, List.length_nil]); omega) ?_; simp (disch := first | assumption | exact Ne.symm (by assumption) | omega) only [hact', hF3, e0, e1, e2, e3, Int.reduceBEq, ↓ZD, ZU, ZR, Za, Zb, Zc, Zd, Ze, Zf, Zg, Zh, Zi, Zj, Zk, Zl, Zm, Zn, Zo, Zp, Zq, Zr, reduceIte, reduceCtorEq, Zs, Zt, Zu, Zv])
        cases hpt : okPath ty <;> simp [← hT, ← hO, hna, k0, k1, k2, k3, hpt]
      have e3 : (kind == 3) = false := by simpa using k3
      by_cases k4 : kind = 4
      · have e4 : (kind == 4) = true := by simpa using k4
        simp (disch := first | assumption | exact Ne.symm (by assumption) | omega) only [hact', hF3, e0, e1, e2, e3, e4, Int.reduceBEq, ↓ZD, ZU, ZR, Za, Zb, Zc, Zd, Ze, Zf, Zg, Zh, Zi, Zj, Zk, Zl, Zm, Zn, Zo, Zp, Zq, Zr, reduceIte, reduceCtorEq, Zs, Zt, Zu, Zv]
        repeat (refine conj.of (by (try simp only [List.length_append, List.length_cons, List.length_nil]); omega) ?_; simp (disch := first | assumption | exact Ne.symm (by assumption) | omega) only [hact', hF3, e0, e1, e2, e3, e4, Int.reduceBEq, ↓ZD, ZU, ZR, Za, Zb, Zc, Zd, Ze, Zf, Zg, Zh, Zi, Zj, Zk, Zl, Zm, Zn, Zo, Zp, Zq, Zr, reduceIte, reduceCtorEq, Zs, Zt, Zu, Zv])
        refine CallQ.of _ (hrp _) ?_
        simp (disch := first | assumption | exact Ne.symm (by assumption) | omega) only [hact', hF3, e0, e1, e2, e3, e4, Int.reduceBEq, ↓ZD, ZU, ZR, Za, Zb, Zc, Zd, Ze, Zf, Zg, Zh, Zi, Zj, Zk, Zl, Zm, Zn, Zo, Zp, Zq, Zr, reduceIte, reduceCtorEq, Zs, Zt, Zu, Zv]
        repeat (refine conj.of (by (try simp only [List.length_append, List.length_cons, List.length_nil]); omega) ?_; simp (disch := first | assumption | exact Ne.symm (by assumption) | omega) only [hact', hF3, e0, e1, e2, e3, e4, Int.reduceBEq, ↓ZD, ZU, ZR, Za, Zb, Zc, Zd, Ze, Zf, Zg, Zh, Zi, Zj, Zk, Zl, Zm, Zn, Zo, Zp, Zq, Zr, reduceIte, reduceCtorEq, Zs, Zt, Zu, Zv])
        cases hpt : okPath ty <;> cases hpu : okPath ut <;> simp [← hT, ← hO, hna, k0, k1, k2, k3, k4, hpt, hpu]
      have e4 : (kind == 4) = false := by simpa using k4
      by_cases k5 : kind = 5
      · have e5 : (kind == 5) = true := by simpa using k5
        simp (disch := first | assumption | exact Ne.symm (by assumption) | omega) only [hact', hF3, e0, e1, e2, e3, e4, e5, Int.reduceBEq, ↓ZD, ZU, ZR, Za, Zb, Zc, Zd, Ze, Zf, Zg, Zh, Zi, Zj, Zk, Zl, Zm, Zn, Zo, Zp, Zq, Zr, reduceIte, reduceCtorEq, Zs, Zt, Zu, Zv]
        repeat (refine conj.of (by (try simp only [List.length_append, List.length_cons, List.length_nil]); omega) ?_; simp (disch := first | assumption | exact Ne.symm (by assumption) | omega) only [hact', hF3, e0, e1, e2, e3, e4, e5, Int.reduceBEq, ↓ZD, ZU, ZR, Za, Zb, Zc, Zd, Ze, Zf, Zg, Zh, Zi, Zj, Zk, Zl, Zm, Zn, Zo, Zp, Zq, Zr, reduceIte, reduceCtorEq, Zs, Zt, Zu, Zv])
        refine LoopL.inv (α := Nat) (fun i => i ≤ l.length)
          (fun i => [(2, some (.pointer (some ⟨b3, 0, none⟩))), (9, some (.string (bs (nm ++ [32, 105, 110, 32, 91] ++ rowT ahQ 0 ((uidsT l).take i))))), (10, some (.bool false)), (11, some (.int .i64 i))])
          (fun i => [(b3, .cells #[Value.int IntKind.i64 kind, Value.string (bs ty), Value.string (bs ut), Value.string (bs ui), Value.bool true, Value.slice a l.length c] 41 (0, 0))]) (fun i => l.length - i) 0 (Nat.zero_le _) (by simp only [Le_nil, Le_cons, List.take_zero, rowT]; simp (disch := first | assumption | exact Ne.symm (by assumption) | omega) only [↓ZD, ZU, ZR, Za, Zb, Zc, Zd, Ze, Zf, Zg, Zh, Zi, Zj, Zk, Zl, Zm, Zn, Zo, Zp, Zq, Zr, reduceIte, reduceCtorEq, Zs, Zt, Zu, Zv]; try (first | done | rfl | simp)) (by simp only [HLe_nil, HLe_cons]; simp (disch := first | assumption | exact Ne.symm (by assumption) | omega) only [↓ZD, ZU, ZR, Za, Zb, Zc, Zd, Ze, Zf, Zg, Zh, Zi, Zj, Zk, Zl, Zm, Zn, Zo, Zp, Zq, Zr, reduceIte, reduceCtorEq, Zs, Zt, Zu, Zv]) ?_
        rintro i hi
        have hue := uids_len l
        have hql := rowQ_len (uidsT l)
        have hul : (uidsT l).length = l.length := by simp [uidsT]
        by_cases hlt : i < l.length
        · have hd : decide ((i : Int) < (l.length : Int)) = true := by simp; omega
          have gx : l[i]? = some (l.getD i ([], [])) := getDs _ hlt
          generalize l.getD i ([], []) = p at gx
          have gu : (uidsT l)[i]? = some (uidT p.1 p.2) := by simp [uidsT, gx]
          have hps := sumP_mem (List.mem_of_getElem? gx)
          have hru2 := fun F' : Base => ruid_pure F' p.1 p.2 (by unfold Sm; omega) (by unfold Sm; omega)
          have hle := rowT_take_le ahQ (uidsT l) (i + 1)
          have e9 := rowT_take ahQ gu
          rw [e9] at hle
          simp only [List.length_append] at hle
          obtain ⟨ba, oa, rfl, hla⟩ := (hh i p gx).ldn
          by_cases h0 : 0 < i
          · have hz : decide ((0 : Int) < (i : Int)) = true := by simp; omega
            rw [if_pos h0] at hle
            simp only [List.length_cons, List.length_nil, ahQ] at hle
            simp (disch := first | assumption | exact Ne.symm (by assumption) | omega) only [hact', hF3, e0, e1, e2, e3, e4, e5, hd, hz, ↓hla, Int.toNat_natCast, Nat.mul_one, Int.reduceBEq, ↓ZD, ZU, ZR, Za, Zb, Zc, Zd, Ze, Zf, Zg, Zh, Zi, Zj, Zk, Zl, Zm, Zn, Zo, Zp, Zq, Zr, reduceIte, reduceCtorEq, Zs, Zt, Zu, Zv]
            repeat (refine conj.of (by (try simp only [List.length_append, List.length_cons, List.length_nil]); omega) ?_; simp (disch := first | assumption | exact Ne.symm (by assumption) | omega) only [hact', hF3, e0, e1, e2, e3, e4, e5, hd, hz, ↓hla, Int.toNat_natCast, Nat.mul_one, Int.reduceBEq, ↓ZD, ZU, ZR, Za, Zb, Zc, Zd, Ze, Zf, Zg, Zh, Zi, Zj, Zk, Zl, Zm, Zn, Zo, Zp, Zq, Zr, reduceIte, reduceCtorEq, Zs, Zt, Zu, Zv])
            refine CallE.pure (hru2 _) ?_
            simp (disch := first | assumption | exact Ne.symm (by assumption) | omega) only [hact', hF3, e0, e1, e2, e3, e4, e5, hd, hz, ↓hla, Int.toNat_natCast, Nat.mul_one, Int.reduceBEq, ↓ZD, ZU, ZR, Za, Zb, Zc, Zd, Ze, Zf, Zg, Zh, Zi, Zj, Zk, Zl, Zm, Zn, Zo, Zp, Zq, Zr, reduceIte, reduceCtorEq, Zs, Zt, Zu, Zv]
            repeat (refine conj.of (by (try simp only [List.length_append, List.length_cons, List.length_nil]); omega) ?_; simp (disch := first | assumption | exact Ne.symm (by assumption) | omega) only [hact', hF3, e0, e1, e2, e3, e4, e5, hd, hz, ↓hla, Int.toNat_natCast, Nat.mul_one, Int.reduceBEq, ↓ZD, ZU, ZR, Za, Zb, Zc, Zd, Ze, Zf, Zg, Zh, Zi, Zj, Zk, Zl, Zm, Zn, Zo, Zp, Zq, Zr, reduceIte, reduceCtorEq, Zs, Zt, Zu, Zv])
            refine invK.on (i + 1) (by omega) (by omega) ?_ ?_
            · simp only [Le_nil, Le_cons, e9, if_pos h0]; simp (disch := first | assumption | exact Ne.symm (by assumption) | omega) only [↓ZD, ZU, ZR, Za, Zb, Zc, Zd, Ze, Zf, Zg, Zh, Zi, Zj, Zk, Zl, Zm, Zn, Zo, Zp, Zq, Zr, reduceIte, reduceCtorEq, Zs, Zt, Zu, Zv]; simp [ahQ]
            · simp only [HLe_nil, HLe_cons]; simp (disch := first | assumption | exact Ne.symm (by assumption) | omega) only [↓ZD, ZU, ZR, Za, Zb, Zc, Zd, Ze, Zf, Zg, Zh, Zi, Zj, Zk, Zl, Zm, Zn, Zo, Zp, Zq, Zr, reduceIte, reduceCtorEq, Zs, Zt, Zu, Zv]
          · have hz : decide ((0 : Int) < (i : Int)) = false := by simp; omega
            rw [if_neg h0] at hle
            simp only [List.length_cons, List.length_nil, ahQ] at hle
            simp (disch := first | assumption | exact Ne.symm (by assumption) | omega) only [hact', hF3, e0, e1, e2, e3, e4, e5, hd, hz, ↓hla, Int.toNat_natCast, Nat.mul_one, Int.reduceBEq, ↓ZD, ZU, ZR, Za, Zb, Zc, Zd, Ze, Zf, Zg, Zh, Zi, Zj, Zk, Zl, Zm, Zn, Zo, Zp, Zq, Zr, reduceIte, reduceCtorEq, Zs, Zt, Zu, Zv]
            repeat (refine conj.of (by (try simp only [List.length_append, List.length_cons, List.length_nil]); omega) ?_; simp (disch := first | assumption | exact Ne.symm (by assumption) | omega) only [hact', hF3, e0, e1, e2, e3, e4, e5, hd, hz, ↓hla, Int.toNat_natCast, Nat.mul_one, Int.reduceBEq, ↓ZD, ZU, ZR, Za, Zb, Zc, Zd, Ze, Zf, Zg, Zh, Zi, Zj, Zk, Zl, Zm, Zn, Zo, Zp, Zq, Zr, reduceIte, reduceCtorEq, Zs, Zt, Zu, Zv])
            refine CallE.pure (hru2 _) ?_
            simp (disch := first | assumption | exact Ne.symm (by assumption) | omega) only [hact', hF3, e0, e1, e2, e3, e4, e5, hd, hz, ↓hla, Int.toNat_natCast, Nat.mul_one, Int.reduceBEq, ↓ZD, ZU, ZR, Za, Zb, Zc, Zd, Ze, Zf, Zg, Zh, Zi, Zj, Zk, Zl, Zm, Zn, Zo, Zp, Zq, Zr, reduceIte, reduceCtorEq, Zs, Zt, Zu, Zv]
            repeat (refine conj.of (by (try simp only [List.length_append, List.length_cons, List.length_nil]); omega) ?_; simp (disch := first | assumption | exact Ne.symm (by assumption) | omega) only [hact', hF3, e0, e1, e2, e3, e4, e5, hd, hz, ↓hla, Int.toNat_natCast, Nat.mul_one, Int.reduceBEq, ↓ZD, ZU, ZR, Za, Zb, Zc, Zd, Ze, Zf, Zg, Zh, Zi, Zj, Zk, Zl, Zm, Zn, Zo, Zp, Zq, Zr, reduceIte, reduceCtorEq, Zs, Zt, Zu, Zv])
            refine invK.on (i + 1) (by omega) (by omega) ?_ ?_
            · simp only [Le_nil, Le_cons, e9, if_neg h0]; simp (disch := first | assumption | exact Ne.symm (by assumption) | omega) only [↓ZD, ZU, ZR, Za, Zb, Zc, Zd, Ze, Zf, Zg, Zh, Zi, Zj, Zk, Zl, Zm, Zn, Zo, Zp, Zq, Zr, reduceIte, reduceCtorEq, Zs, Zt, Zu, Zv]; simp [ahQ]
            · simp only [HLe_nil, HLe_cons]; simp (disch := first | assumption | exact Ne.symm (by assumption) | omega) only [↓ZD, ZU, ZR, Za, Zb, Zc, Zd, Ze, Zf, Zg, Zh, Zi, Zj, Zk, Zl, Zm, Zn, Zo, Zp, Zq, Zr, reduceIte, reduceCtorEq, Zs, Zt, Zu, Zv]
        · have hd : decide ((i : Int) < (l.length : Int)) = false := by simp; omega
          obtain rfl : i = l.length := by omega
          rw [List.take_of_length_le (l := uidsT l) (by omega)]
          simp (disch := first | assumption | exact Ne.symm (by assumption) | omega) only [hact', hF3, e0, e1, e2, e3, e4, e5, hd, Int.reduceBEq, ↓ZD, ZU, ZR, Za, Zb, Zc, Zd, Ze, Zf, Zg, Zh, Zi, Zj, Zk, Zl, Zm, Zn, Zo, Zp, Zq, Zr, reduceIte, reduceCtorEq, Zs, Zt, Zu, Zv]
          repeat (refine conj.of (by (try simp only [List.length_append, List.length_cons, List.length_nil]); omega) ?_; simp (disch := first | assumption | exact Ne.symm (by assumption) | omega) only [hact', hF3, e0, e1, e2, e3, e4, e5, hd, Int.reduceBEq, ↓ZD, ZU, ZR, Za, Zb, Zc, Zd, Ze, Zf, Zg, Zh, Zi, Zj, Zk, Zl, Zm, Zn, Zo, Zp, Zq, Zr, reduceIte, reduceCtorEq, Zs, Zt, Zu, Zv])
          simp [← hT, ← hO, hna, k0, k1, k2, k3, k4, k5]
      have e5 : (kind == 5) = false := by simpa using k5
      simp (disch := first | assumption | exact Ne.symm (by assumption) | omega) only [hact', hF3, e0, e1, e2, e3, e4, e5, Int.reduceBEq, ↓ZD, ZU, ZR, Za, Zb, Zc, Zd, Ze, Zf, Zg, Zh, Zi, Zj, Zk, Zl, Zm, Zn, Zo, Zp, Zq, Zr, reduceIte, reduceCtorEq, Zs, Zt, Zu, Zv]
      repeat (refine conj.of (by (try simp only [List.length_append, List.length_cons, List.length_nil]); omega) ?_; simp (disch := first | assumption | exact Ne.symm (by assumption) | omega) only [hact', hF3, e0, e1, e2, e3, e4, e5, Int.reduceBEq, ↓ZD, ZU, ZR, Za, Zb, Zc, Zd, Ze, Zf, Zg, Zh, Zi, Zj, Zk, Zl, Zm, Zn, Zo, Zp, Zq, Zr, reduceIte, reduceCtorEq, Zs, Zt, Zu, Zv])
      refine LoopL.inv (α := Nat) (fun i => i ≤ l.length)
        (fun i => [(2, some (.pointer (some ⟨b3, 0, none⟩))), (9, some (.string (bs (nm ++ [32, 105, 110, 32, 91] ++ rowT ahQ 0 ((uidsT l).take i))))), (10, some (.bool false)), (11, some (.int .i64 i))])
        (fun i => [(b3, .cells #[Value.int IntKind.i64 kind, Value.string (bs ty), Value.string (bs ut), Value.string (bs ui), Value.bool true, Value.slice a l.length c] 41 (0, 0))]) (fun i => l.length - i) 0 (Nat.zero_le _) (by simp only [Le_nil, Le_cons, List.take_zero, rowT]; simp (disch := first | assumption | exact Ne.symm (by assumption) | omega) only [↓ZD, ZU, ZR, Za, Zb, Zc, Zd, Ze, Zf, Zg, Zh, Zi, Zj, Zk, Zl, Zm, Zn, Zo, Zp, Zq, Zr, reduceIte, reduceCtorEq, Zs, Zt, Zu, Zv]; try (first | done | rfl | simp)) (by simp only [HLe_nil, HLe_cons]; simp (disch := first | assumption | exact Ne.symm (by assumption) | omega) only [↓ZD, ZU, ZR, Za, Zb, Zc, Zd, Ze, Zf, Zg, Zh, Zi, Zj, Zk, Zl, Zm, Zn, Zo, Zp, Zq, Zr, reduceIte, reduceCtorEq, Zs, Zt, Zu, Zv]) ?_
      rintro i hi
      have hue := uids_len l
      have hql := rowQ_len (uidsT l)
      have hul : (uidsT l).length = l.length := by simp [uidsT]
      by_cases hlt : i < l.length
      · have hd : decide ((i : Int) < (l.length : Int)) = true := by simp; omega
        have gx : l[i]? = some (l.getD i ([], [])) := getDs _ hlt
        generalize l.getD i ([], []) = p at gx
        have gu : (uidsT l)[i]? = some (uidT p.1 p.2) := by simp [uidsT, gx]
        have hps := sumP_mem (List.mem_of_getElem? gx)
        have hru2 := fun F' : Base => ruid_pure F' p.1 p.2 (by unfold Sm; omega) (by unfold Sm; omega)
        have hle := rowT_take_le ahQ (uidsT l) (i + 1)
        have e9 := rowT_take ahQ gu
        rw [e9] at hle
        simp only [List.length_append] at hle
        obtain ⟨ba, oa, rfl, hla⟩ := (hh i p gx).ldn
        by_cases h0 : 0 < i
        · have hz : decide ((0 : Int) < (i : Int)) = true := by simp; omega
          rw [if_pos h0] at hle
          simp only [List.length_cons, List.length_nil, ahQ] at hle
          simp (disch := first | assumption | exact Ne.symm (by assumption) | omega) only [hact', hF3, e0, e1, e2, e3, e4, e5, hd, hz, ↓hla, Int.toNat_natCast, Nat.mul_one, Int.reduceBEq, ↓ZD, ZU, ZR, Za, Zb, Zc, Zd, Ze, Zf, Zg, Zh, Zi, Zj, Zk, Zl, Zm, Zn, Zo, Zp, Zq, Zr, reduceIte, reduceCtorEq, Zs, Zt, Zu, Zv]
          repeat (refine conj.of (by (try simp only [List.length_append, List.length_cons, List.length_nil]); omega) ?_; simp (disch := first | assumption | exact Ne.symm (by assumption) | omega) only [hact', hF3, e0, e1, e2, e3, e4, e5, hd, hz, ↓hla, Int.toNat_natCast, Nat.mul_one, Int.reduceBEq, ↓ZD, ZU, ZR, Za, Zb, Zc, Zd, Ze, Zf, Zg, Zh, Zi, Zj, Zk, Zl, Zm, Zn, Zo, Zp, Zq, Zr, reduceIte, reduceCtorEq, Zs, Zt, Zu, Zv])
          refine CallE.pure (hru2 _) ?_
          simp (disch := first | assumption | exact Ne.symm (by assumption) | omega) only [hact', hF3, e0, e1, e2, e3, e4, e5, hd, hz, ↓hla, Int.toNat_natCast, Nat.mul_one, Int.reduceBEq, ↓ZD, ZU, ZR, Za, Zb, Zc, Zd, Ze, Zf, Zg, Zh, Zi, Zj, Zk, Zl, Zm, Zn, Zo, Zp, Zq, Zr, reduceIte, reduceCtorEq, Zs, Zt, Zu, Zv]
          repeat (refine conj.of (by (try simp only [List.length_append, List.length_cons, List.length_nil]); omega) ?_; simp (disch := first | assumption | exact Ne.symm (by assumption) | omega) only [hact', hF3, e0, e1, e2, e3, e4, e5, hd, hz, ↓hla, Int.toNat_natCast, Nat.mul_one, Int.reduceBEq, ↓ZD, ZU, ZR, Za, Zb, Zc, Zd, Ze, Zf, Zg, Zh, Zi, Zj, Zk, Zl, Zm, Zn, Zo, Zp, Zq, Zr, reduceIte, reduceCtorEq, Zs, Zt, Zu, Zv])
          refine invK.on (i + 1) (by omega) (by omega) ?_ ?_
          · simp only [Le_nil, Le_cons, e9, if_pos h0]; simp (disch := first | assumption | exact Ne.symm (by assumption) | omega) only [↓ZD, ZU, ZR, Za, Zb, Zc, Zd, Ze, Zf, Zg, Zh, Zi, Zj, Zk, Zl, Zm, Zn, Zo, Zp, Zq, Zr, reduceIte, reduceCtorEq, Zs, Zt, Zu, Zv]; simp [ahQ]
          · simp only [HLe_nil, HLe_cons]; simp (disch := first | assumption | exact Ne.symm (by assumption) | omega) only [↓ZD, ZU, ZR, Za, Zb, Zc, Zd, Ze, Zf, Zg, Zh, Zi, Zj, Zk, Zl, Zm, Zn, Zo, Zp, Zq, Zr, reduceIte, reduceCtorEq, Zs, Zt, Zu, Zv]
        · have hz : decide ((0 : Int) < (i : Int)) = false := by simp; omega
          rw [if_neg h0] at hle
          simp only [List.length_cons, List.length_nil, ahQ] at hle
          simp (disch := first | assumption | exact Ne.symm (by assumption) | omega) only [hact', hF3, e0, e1, e2, e3, e4, e5, hd, hz, ↓hla, Int.toNat_natCast, Nat.mul_one, Int.reduceBEq, ↓ZD, ZU, ZR, Za, Zb, Zc, Zd, Ze, Zf, Zg, Zh, Zi, Zj, Zk, Zl, Zm, Zn, Zo, Zp, Zq, Zr, reduceIte, reduceCtorEq, Zs, Zt, Zu, Zv]
          repeat (refine conj.of (by (try simp only [List.length_append, List.length_cons, List.length_nil]); omega) ?_; simp (disch := first | assumption | exact Ne.symm (by assumption) | omega) only [hact', hF3, e0, e1, e2, e3, e4, e5, hd, hz, ↓hla, Int.toNat_natCast, Nat.mul_one, Int.reduceBEq, ↓ZD, ZU, ZR, Za, Zb, Zc, Zd, Ze, Zf, Zg, Zh, Zi, Zj, Zk, Zl, Zm, Zn, Zo, Zp, Zq, Zr, reduceIte, reduceCtorEq, Zs, Zt, Zu, Zv])
          refine CallE.pure (hru2 _) ?_
          simp (disch := first | assumption | exact Ne.symm (by assumption) | omega) only [hact', hF3, e0, e1, e2, e3, e4, e5, hd, hz, ↓hla, Int.toNat_natCast, Nat.mul_one, Int.reduceBEq, ↓ZD, ZU, ZR, Za, Zb, Zc, Zd, Ze, Zf, Zg, Zh, Zi, Zj, Zk, Zl, Zm, Zn, Zo, Zp, Zq, Zr, reduceIte, reduceCtorEq, Zs, Zt, Zu, Zv]
          repeat (refine conj.of (by (try simp only [List.length_append, List.length_cons, List.length_nil]); omega) ?_; simp (disch := first | assumption | exact Ne.symm (by assumption) | omega) only [hact', hF3, e0, e1, e2, e3, e4, e5, hd, hz, ↓hla, Int.toNat_natCast, Nat.mul_one, Int.reduceBEq, ↓ZD, ZU, ZR, Za, Zb, Zc, Zd, Ze, Zf, Zg, Zh, Zi, Zj, Zk, Zl, Zm, Zn, Zo, Zp, Zq, Zr, reduceIte, reduceCtorEq, Zs, Zt, Zu, Zv])
          refine invK.on (i + 1) (by omega) (by omega) ?_ ?_
          · simp only [Le_nil, Le_cons, e9, if_neg h0]; simp (disch := first | assumption | exact Ne.symm (by assumption) | omega) only [↓ZD, ZU, ZR, Za, Zb, Zc, Zd, Ze, Zf, Zg, Zh, Zi, Zj, Zk, Zl, Zm, Zn, Zo, Zp, Zq, Zr, reduceIte, reduceCtorEq, Zs, Zt, Zu, Zv]; simp [ahQ]
          · simp only [HLe_nil, HLe_cons]; simp (disch := first | assumption | exact Ne.symm (by assumption) | omega) only [↓ZD, ZU, ZR, Za, Zb, Zc, Zd, Ze, Zf, Zg, Zh, Zi, Zj, Zk, Zl, Zm, Zn, Zo, Zp, Zq, Zr, reduceIte, reduceCtorEq, Zs, Zt, Zu, Zv]
      · have hd : decide ((i : Int) < (l.length : Int)) = false := by simp; omega
        obtain rfl : i = l.length := by omega
        rw [List.take_of_length_le (l := uidsT l) (by omega)]
        simp (disch := first | assumption | exact Ne.symm (by assumption) | omega) only [hact', hF3, e0, e1, e2, e3, e4, e5, hd, Int.reduceBEq, ↓ZD, ZU, ZR, Za, Zb, Zc, Zd, Ze, Zf, Zg, Zh, Zi, Zj, Zk, Zl, Zm, Zn, Zo, Zp, Zq, Zr, reduceIte, reduceCtorEq, Zs, Zt, Zu, Zv]
        repeat (refine conj.of (by (try simp only [List.length_append, List.length_cons, List.length_nil]); omega) ?_; simp (disch := first | assumption | exact Ne.symm (by assumption) | omega) only [hact', hF3, e0, e1, e2, e3, e4, e5, hd, Int.reduceBEq, ↓ZD, ZU, ZR, Za, Zb, Zc, Zd, Ze, Zf, Zg, Zh, Zi, Zj, Zk, Zl, Zm, Zn, Zo, Zp, Zq, Zr, reduceIte, reduceCtorEq, Zs, Zt, Zu, Zv])
        simp [← hT, ← hO, hna, k0, k1, k2, k3, k4, k5]
    | false =>
      have hact' : (nm == [97, 99, 116, 105, 111, 110]) = false := hact
      have hna : ¬ nm = actN := by simpa using hact
      simp (disch := first | assumption | exact Ne.symm (by assumption) | omega) only [hact', fu20, Int.reduceBEq, ↓ZD, ZU, ZR, Za, Zb, Zc, Zd, Ze, Zf, Zg, Zh, Zi, Zj, Zk, Zl, Zm, Zn, Zo, Zp, Zq, Zr, reduceIte, reduceCtorEq, Zs, Zt, Zu, Zv]
      refine NewB.of fun b3 hb3 hF3 => ?_
      simp (disch := first | assumption | exact Ne.symm (by assumption) | omega) only [hact', hF3, Int.reduceBEq, ↓ZD, ZU, ZR, Za, Zb, Zc, Zd, Ze, Zf, Zg, Zh, Zi, Zj, Zk, Zl, Zm, Zn, Zo, Zp, Zq, Zr, reduceIte, reduceCtorEq, Zs, Zt, Zu, Zv]
      refine CallE.pure (hru _) ?_
      simp (disch := first | assumption | exact Ne.symm (by assumption) | omega) only [hact', hF3, Int.reduceBEq, ↓ZD, ZU, ZR, Za, Zb, Zc, Zd, Ze, Zf, Zg, Zh, Zi, Zj, Zk, Zl, Zm, Zn, Zo, Zp, Zq, Zr, reduceIte, reduceCtorEq, Zs, Zt, Zu, Zv]
      repeat (refine conj.of (by (try simp only [List.length_append, List.length_cons, List.length_nil]); omega) ?_; simp (disch := first | assumption | exact Ne.symm (by assumption) | omega) only [hact', hF3, Int.reduceBEq, ↓ZD, ZU, ZR, Za, Zb, Zc, Zd, Ze, Zf, Zg, Zh, Zi, Zj, Zk, Zl, Zm, Zn, Zo, Zp, Zq, Zr, reduceIte, reduceCtorEq, Zs, Zt, Zu, Zv])
      by_cases k0 : kind = 0
      · have e0 : (kind == 0) = true := by simpa using k0
        simp (disch := first | assumption | exact Ne.symm (by assumption) | omega) only [hact', hF3, e0, Int.reduceBEq, ↓ZD, ZU, ZR, Za, Zb, Zc, Zd, Ze, Zf, Zg, Zh, Zi, Zj, Zk, Zl, Zm, Zn, Zo, Zp, Zq, Zr, reduceIte, reduceCtorEq, Zs, Zt, Zu, Zv]
        repeat (refine conj.of (by (try simp only [List.length_append, List.length_cons, List.length_nil]); omega) ?_; simp (disch := first | assumption | exact Ne.symm (by assumption) | omega) only [hact', hF3, e0, Int.reduceBEq, ↓ZD, ZU, ZR, Za, Zb, Zc, Zd, Ze, Zf, Zg, Zh, Zi, Zj, Zk, Zl, Zm, Zn, Zo, Zp, Zq, Zr, reduceIte, reduceCtorEq, Zs, Zt, Zu, Zv])
        simp [← hT, ← hO, hna, k0]
      have e0 : (kind == 0) = false := by simpa using k0
      by_cases k1 : kind = 1
      · have e1 : (kind == 1) = true := by simpa using k1
        simp (disch := first | assumption | exact Ne.symm (by assumption) | omega) only [hact', hF3, e0, e1, Int.reduceBEq, ↓ZD, ZU, ZR, Za, Zb, Zc, Zd, Ze, Zf, Zg, Zh, Zi, Zj, Zk, Zl, Zm, Zn, Zo, Zp, Zq, Zr, reduceIte, reduceCtorEq, Zs, Zt, Zu, Zv]
        repeat (refine conj.of (by (try simp only [List.length_append, List.length_cons, List.length_nil]); omega) ?_; simp (disch := first | assumption | exact Ne.symm (by assumption) | omega) only [hact', hF3, e0, e1, Int.reduceBEq, ↓ZD, ZU, ZR, Za, Zb, Zc, Zd, Ze, Zf, Zg, Zh, Zi, Zj, Zk, Zl, Zm, Zn, Zo, Zp, Zq, Zr, reduceIte, reduceCtorEq, Zs, Zt, Zu, Zv])
        simp [← hT, ← hO, hna, k0, k1]
      have e1 : (kind == 1) = false := by simpa using k1
      by_cases k2 : kind = 2
      · have e2 : (kind == 2) = true := by simpa using k2
        simp (disch := first | assumption | exact Ne.symm (by assumption) | omega) only [hact', hF3, e0, e1, e2, Int.reduceBEq, ↓ZD, ZU, ZR, Za, Zb, Zc, Zd, Ze, Zf, Zg, Zh, Zi, Zj, Zk, Zl, Zm, Zn, Zo, Zp, Zq, Zr, reduceIte, reduceCtorEq, Zs, Zt, Zu, Zv]
        repeat (refine conj.of (by (try simp only [List.length_append, List.length_cons, List.length_nil]); omega) ?_; simp (disch := first | assumption | exact Ne.symm (by assumption) | omega) only [hact', hF3, e0, e1, e2, Int.reduceBEq, ↓ZD, ZU, ZR, Za, Zb, Zc, Zd, Ze, Zf, Zg, Zh, Zi, Zj, Zk, Zl, Zm, Zn, Zo, Zp, Zq, Zr, reduceIte, reduceCtorEq, Zs, Zt, Zu, Zv])
        simp [← hT, ← hO, hna, k0, k1, k2]
      have e2 : (kind == 2) = false := by simpa using k2
      by_cases k3 : kind = 3
      · have e3 : (kind == 3) = true := by simpa using k3
        simp (disch := first | assumption | exact Ne.symm (by assumption) | omega) only [hact', hF3, e0, e1, e2, e3, Int.reduceBEq, ↓ZD, ZU, ZR, Za, Zb, Zc, Zd, Ze, Zf, Zg, Zh, Zi, Zj, Zk, Zl, Zm, Zn, Zo, Zp, Zq, Zr, reduceIte, reduceCtorEq, Zs, Zt, Zu, Zv]
        repeat (refine conj.of (by (try simp only [List.length_append, List.length_cons, List.length_nil]); omega) ?_; simp (disch := first | assumption | exact Ne.symm (by assumption) | omega) only [hact', hF3, e0, e1, e2, e3, Int.reduceBEq, ↓ZD, ZU, ZR, Za, Zb, Zc, Zd, Ze, Zf, Zg, Zh, Zi, Zj, Zk, Zl, Zm, Zn, Zo, Zp, Zq, Zr, reduceIte, reduceCtorEq, Zs, Zt, Zu, Zv])
        refine CallQ.of _ (hrp _) ?_
        simp (disch := first | assumption | exact Ne.symm (by assumption) | omega) only [hact', hF3, e0, e1, e2, e3, Int.reduceBEq, ↓ZD, ZU, ZR, Za, Zb, Zc, Zd, Ze, Zf, Zg, Zh, Zi, Zj, Zk, Zl, Zm, Zn, Zo, Zp, Zq, Zr, reduceIte, reduceCtorEq, Zs, Zt, Zu, Zv]
        repeat (refine conj.of (by (try simp only [List.length_append, List.length_cons, List.length_nil]); omega) ?_; simp (disch := first | assumption | exact Ne.symm (by assumption) | omega) only [hact', hF3, e0, e1, e2, e3, Int.reduceBEq, ↓ZD, ZU, ZR, Za, Zb, Zc, Zd, Ze, Zf, Zg, Zh, Zi, Zj, Zk, Zl, Zm, Zn, Zo, Zp, Zq, Zr, reduceIte, reduceCtorEq, Zs, Zt, Zu, Zv])
        cases hpt : okPath ty <;> simp [← hT, ← hO, hna, k0, k1, k2, k3, hpt]
      have e3 : (kind == 3) = false := by simpa using k3
      by_cases k4 : kind = 4
      · have e4 : (kind == 4) = true := by simpa using k4
        simp (disch := first | assumption | exact Ne.symm (by assumption) | omega) only [hact', hF3, e0, e1, e2, e3, e4, Int.reduceBEq, ↓ZD, ZU, ZR, Za, Zb, Zc, Zd, Ze, Zf, Zg, Zh, Zi, Zj, Zk, Zl, Zm, Zn, Zo, Zp, Zq, Zr, reduceIte, reduceCtorEq, Zs, Zt, Zu, Zv]
        repeat (refine conj.of (by (try simp only [List.length_append, List.length_cons, List.length_nil]); omega) ?_; simp (disch := first | assumption | exact Ne.symm (by assumption) | omega) only [hact', hF3, e0, e1, e2, e3, e4, Int.reduceBEq, ↓ZD, ZU, ZR, Za, Zb, Zc, Zd, Ze, Zf, Zg, Zh, Zi, Zj, Zk, Zl, Zm, Zn, Zo, Zp, Zq, Zr, reduceIte, reduceCtorEq, Zs, Zt, Zu, Zv])
        refine CallQ.of _ (fun _ => hrp _) ?_
        simp (disch := first | assumption | exact Ne.symm (by assumption) | omega) only [hact', hF3, e0, e1, e2, e3, e4, Int.reduceBEq, ↓ZD, ZU, ZR, Za, Zb, Zc, Zd, Ze, Zf, Zg, Zh, Zi, Zj, Zk, Zl, Zm, Zn, Zo, Zp, Zq, Zr, reduceIte, reduceCtorEq, Zs, Zt, Zu, Zv]
        repeat (refine conj.of (by (try simp only [List.length_append, List.length_cons, List.length_nil]); omega) ?_; simp (disch := first | assumption | exact Ne.symm (by assumption) | omega) only [hact', hF3, e0, e1, e2, e3, e4, Int.reduceBEq, ↓ZD, ZU, ZR, Za, Zb, Zc, Zd, Ze, Zf, Zg, Zh, Zi, Zj, Zk, Zl, Zm, Zn, Zo, Zp, Zq, Zr, reduceIte, reduceCtorEq, Zs, Zt, Zu, Zv])
        cases hpt : okPath ty <;> cases hpu : okPath ut <;> simp [← hT, ← hO, hna, k0, k1, k2, k3, k4, hpt, hpu]
      have e4 : (kind == 4) = false := by simpa using k4
      by_cases k5 : kind = 5
      · have e5 : (kind == 5) = true := by simpa using k5
        simp (disch := first | assumption | exact Ne.symm (by assumption) | omega) only [hact', hF3, e0, e1, e2, e3, e4, e5, Int.reduceBEq, ↓ZD, ZU, ZR, Za, Zb, Zc, Zd, Ze, Zf, Zg, Zh, Zi, Zj, Zk, Zl, Zm, Zn, Zo, Zp, Zq, Zr, reduceIte, reduceCtorEq, Zs, Zt, Zu, Zv]
        repeat (refine conj.of (by (try simp only [List.length_append, List.length_cons, List.length_nil]); omega) ?_; simp (disch := first | assumption | exact Ne.symm (by assumption) | omega) only [hact', hF3, e0, e1, e2, e3, e4, e5, Int.reduceBEq, ↓ZD, ZU, ZR, Za, Zb, Zc, Zd, Ze, Zf, Zg, Zh, Zi, Zj, Zk, Zl, Zm, Zn, Zo, Zp, Zq, Zr, reduceIte, reduceCtorEq, Zs, Zt, Zu, Zv])
        refine LoopL.inv (α := Nat) (fun i => i ≤ l.length)
          (fun i => [(2, some (.pointer (some ⟨b3, 0, none⟩))), (9, some (.string (bs (nm ++ [32, 105, 110, 32, 91] ++ rowT ahQ 0 ((uidsT l).take i))))), (10, some (.bool false)), (11, some (.int .i64 i))])
          (fun i => [(b3, .cells #[Value.int IntKind.i64 kind, Value.string (bs ty), Value.string (bs ut), Value.string (bs ui), Value.bool false, Value.slice a l.length c] 41 (0, 0))]) (fun i => l.length - i) 0 (Nat.zero_le _) (by simp only [Le_nil, Le_cons, List.take_zero, rowT]; simp (disch := first | assumption | exact Ne.symm (by assumption) | omega) only [↓ZD, ZU, ZR, Za, Zb, Zc, Zd, Ze, Zf, Zg, Zh, Zi, Zj, Zk, Zl, Zm, Zn, Zo, Zp, Zq, Zr, reduceIte, reduceCtorEq, Zs, Zt, Zu, Zv]; try (first | done | rfl | simp)) (by simp only [HLe_nil, HLe_cons]; simp (disch := first | assumption | exact Ne.symm (by assumption) | omega) only [↓ZD, ZU, ZR, Za, Zb, Zc, Zd, Ze, Zf, Zg, Zh, Zi, Zj, Zk, Zl, Zm, Zn, Zo, Zp, Zq, Zr, reduceIte, reduceCtorEq, Zs, Zt, Zu, Zv]) ?_
        rintro i hi
        have hue := uids_len l
        have hql := rowQ_len (uidsT l)
        have hul : (uidsT l).length = l.length := by simp [uidsT]
        by_cases hlt : i < l.length
        · have hd : decide ((i : Int) < (l.length : Int)) = true := by simp; omega
          have gx : l[i]? = some (l.getD i ([], [])) := getDs _ hlt
          generalize l.getD i ([], []) = p at gx
          have gu : (uidsT l)[i]? = some (uidT p.1 p.2) := by simp [uidsT, gx]
          have hps := sumP_mem (List.mem_of_getElem? gx)
          have hru2 := fun F' : Base => ruid_pure F' p.1 p.2 (by unfold Sm; omega) (by unfold Sm; omega)
          have hle := rowT_take_le ahQ (uidsT l) (i + 1)
          have e9 := rowT_take ahQ gu
          rw [e9] at hle
          simp only [List.length_append] at hle
          obtain ⟨ba, oa, rfl, hla⟩ := (hh i p gx).ldn
          by_cases h0 : 0 < i
          · have hz : decide ((0 : Int) < (i : Int)) = true := by simp; omega
            rw [if_pos h0] at hle
            simp only [List.length_cons, List.length_nil, ahQ] at hle
            simp (disch := first | assumption | exact Ne.symm (by assumption) | omega) only [hact', hF3, e0, e1, e2, e3, e4, e5, hd, hz, ↓hla, Int.toNat_natCast, Nat.mul_one, Int.reduceBEq, ↓ZD, ZU, ZR, Za, Zb, Zc, Zd, Ze, Zf, Zg, Zh, Zi, Zj, Zk, Zl, Zm, Zn, Zo, Zp, Zq, Zr, reduceIte, reduceCtorEq, Zs, Zt, Zu, Zv]
            repeat (refine conj.of (by (try simp only [List.length_append, List.length_cons, List.length_nil]); omega) ?_; simp (disch := first | assumption | exact Ne.symm (by assumption) | omega) only [hact', hF3, e0, e1, e2, e3, e4, e5, hd, hz, ↓hla, Int.toNat_natCast, Nat.mul_one, Int.reduceBEq, ↓ZD, ZU, ZR, Za, Zb, Zc, Zd, Ze, Zf, Zg, Zh, Zi, Zj, Zk, Zl, Zm, Zn, Zo, Zp, Zq, Zr, reduceIte, reduceCtorEq, Zs, Zt, Zu, Zv])
            refine CallE.pure (hru2 _) ?_
            simp (disch := first | assumption | exact Ne.symm (by assumption) | omega) only [hact', hF3, e0, e1, e2, e3, e4, e5, hd, hz, ↓hla, Int.toNat_natCast, Nat.mul_one, Int.reduceBEq, ↓ZD, ZU, ZR, Za, Zb, Zc, Zd, Ze, Zf, Zg, Zh, Zi, Zj, Zk, Zl, Zm, Zn, Zo, Zp, Zq, Zr, reduceIte, reduceCtorEq, Zs, Zt, Zu, Zv]
            repeat (refine conj.of (by (try simp only [List.length_append, List.length_cons, List.length_nil]); omega) ?_; simp (disch := first | assumption | exact Ne.symm (by assumption) | omega) only [hact', hF3, e0, e1, e2, e3, e4, e5, hd, hz, ↓hla, Int.toNat_natCast, Nat.mul_one, Int.reduceBEq, ↓ZD, ZU, ZR, Za, Zb, Zc, Zd, Ze, Zf, Zg, Zh, Zi, Zj, Zk, Zl, Zm, Zn, Zo, Zp, Zq, Zr, reduceIte, reduceCtorEq, Zs, Zt, Zu, Zv])
            refine invK.on (i + 1) (by omega) (by omega) ?_ ?_
            · simp only [Le_nil, Le_cons, e9, if_pos h0]; simp (disch := first | assumption | exact Ne.symm (by assumption) | omega) only [↓ZD, ZU, ZR, Za, Zb, Zc, Zd, Ze, Zf, Zg, Zh, Zi, Zj, Zk, Zl, Zm, Zn, Zo, Zp, Zq, Zr, reduceIte, reduceCtorEq, Zs, Zt, Zu, Zv]; simp [ahQ]
            · simp only [HLe_nil, HLe_cons]; simp (disch := first | assumption | exact Ne.symm (by assumption) | omega) only [↓ZD, ZU, ZR, Za, Zb, Zc, Zd, Ze, Zf, Zg, Zh, Zi, Zj, Zk, Zl, Zm, Zn, Zo, Zp, Zq, Zr, reduceIte, reduceCtorEq, Zs, Zt, Zu, Zv]
          · have hz : decide ((0 : Int) < (i : Int)) = false := by simp; omega
            rw [if_neg h0] at hle
            simp only [List.length_cons, List.length_nil, ahQ] at hle
            simp (disch := first | assumption | exact Ne.symm (by assumption) | omega) only [hact', hF3, e0, e1, e2, e3, e4, e5, hd, hz, ↓hla, Int.toNat_natCast, Nat.mul_one, Int.reduceBEq, ↓ZD, ZU, ZR, Za, Zb, Zc, Zd, Ze, Zf, Zg, Zh, Zi, Zj, Zk, Zl, Zm, Zn, Zo, Zp, Zq, Zr, reduceIte, reduceCtorEq, Zs, Zt, Zu, Zv]
            repeat (refine conj.of (by (try simp only [List.length_append, List.length_cons, List.length_nil]); omega) ?_; simp (disch := first | assumption | exact Ne.symm (by assumption) | omega) only [hact', hF3, e0, e1, e2, e3, e4, e5, hd, hz, ↓hla, Int.toNat_natCast, Nat.mul_one, Int.reduceBEq, ↓ZD, ZU, ZR, Za, Zb, Zc, Zd, Ze, Zf, Zg, Zh, Zi, Zj, Zk, Zl, Zm, Zn, Zo, Zp, Zq, Zr, reduceIte, reduceCtorEq, Zs, Zt, Zu, Zv])
            refine CallE.pure (hru2 _) ?_
            simp (disch := first | assumption | exact Ne.symm (by assumption) | omega) only [hact', hF3, e0, e1, e2, e3, e4, e5, hd, hz, ↓hla, Int.toNat_natCast, Nat.mul_one, Int.reduceBEq, ↓ZD, ZU, ZR, Za, Zb, Zc, Zd, Ze, Zf, Zg, Zh, Zi, Zj, Zk, Zl, Zm, Zn, Zo, Zp, Zq, Zr, reduceIte, reduceCtorEq, Zs, Zt, Zu, Zv]
            repeat (refine conj.of (by (try simp only [List.length_append, List.length_cons, List.length_nil]); omega) ?_; simp (disch := first | assumption | exact Ne.symm (by assumption) | omega) only [hact', hF3, e0, e1, e2, e3, e4, e5, hd, hz, ↓hla, Int.toNat_natCast, Nat.mul_one, Int.reduceBEq, ↓ZD, ZU, ZR, Za, Zb, Zc, Zd, Ze, Zf, Zg, Zh, Zi, Zj, Zk, Zl, Zm, Zn, Zo, Zp, Zq, Zr, reduceIte, reduceCtorEq, Zs, Zt, Zu, Zv])
            refine invK.on (i + 1) (by omega) (by omega) ?_ ?_
            · simp only [Le_nil, Le_cons, e9, if_neg h0]; simp (disch := first | assumption | exact Ne.symm (by assumption) | omega) only [↓ZD, ZU, ZR, Za, Zb, Zc, Zd, Ze, Zf, Zg, Zh, Zi, Zj, Zk, Zl, Zm, Zn, Zo, Zp, Zq, Zr, reduceIte, reduceCtorEq, Zs, Zt, Zu, Zv]; simp [ahQ]
            · simp only [HLe_nil, HLe_cons]; simp (disch := first | assumption | exact Ne.symm (by assumption) | omega) only [↓ZD, ZU, ZR, Za, Zb, Zc, Zd, Ze, Zf, Zg, Zh, Zi, Zj, Zk, Zl, Zm, Zn, Zo, Zp, Zq, Zr, reduceIte, reduceCtorEq, Zs, Zt, Zu, Zv]
        · have hd : decide ((i : Int) < (l.length : Int)) = false := by simp; omega
          obtain rfl : i = l.length := by omega
          rw [List.take_of_length_le (l := uidsT l) (by omega)]
          simp (disch := first | assumption | exact Ne.symm (by assumption) | omega) only [hact', hF3, e0, e1, e2, e3, e4, e5, hd, Int.reduceBEq, ↓ZD, ZU, ZR, Za, Zb, Zc, Zd, Ze, Zf, Zg, Zh, Zi, Zj, Zk, Zl, Zm, Zn, Zo, Zp, Zq, Zr, reduceIte, reduceCtorEq, Zs, Zt, Zu, Zv]
          repeat (refine conj.of (by (try simp only [List.length_append, List.length_cons, List.length_nil]); omega) ?_; simp (disch := first | assumption | exact Ne.symm (by assumption) | omega) only [hact', hF3, e0, e1, e2, e3, e4, e5, hd, Int.reduceBEq, ↓ZD, ZU, ZR, Za, Zb, Zc, Zd, Ze, Zf, Zg, Zh, Zi, Zj, Zk, Zl, Zm, Zn, Zo, Zp, Zq, Zr, reduceIte, reduceCtorEq, Zs, Zt, Zu, Zv])
          simp [← hT, ← hO, hna, k0, k1, k2, k3, k4, k5]
      have e5 : (kind == 5) = false := by simpa using k5
      simp (disch := first | assumption | exact Ne.symm (by assumption) | omega) only [hact', hF3, e0, e1, e2, e3, e4, e5, Int.reduceBEq, ↓ZD, ZU, ZR, Za, Zb, Zc, Zd, Ze, Zf, Zg, Zh, Zi, Zj, Zk, Zl, Zm, Zn, Zo, Zp, Zq, Zr, reduceIte, reduceCtorEq, Zs, Zt, Zu, Zv]
      repeat (refine conj.of (by (try simp only [List.length_append, List.length_cons, List.length_nil]); omega) ?_; simp (disch := first | assumption | exact Ne.symm (by assumption) | omega) only [hact', hF3, e0, e1, e2, e3, e4, e5, Int.reduceBEq, ↓ZD, ZU, ZR, Za, Zb, Zc, Zd, Ze, Zf, Zg, Zh, Zi, Zj, Zk, Zl, Zm, Zn, Zo, Zp, Zq, Zr, reduceIte, reduceCtorEq, Zs, Zt, Zu, Zv])
      refine LoopL.inv (α := Nat) (fun i => i ≤ l.length)
        (fun i => [(2, some (.pointer (some ⟨b3, 0, none⟩))), (9, some (.string (bs (nm ++ [32, 105, 110, 32, 91] ++ rowT ahQ 0 ((uidsT l).take i))))), (10, some (.bool false)), (11, some (.int .i64 i))])
        (fun i => [(b3, .cells #[Value.int IntKind.i64 kind, Value.string (bs ty), Value.string (bs ut), Value.string (bs ui), Value.bool false, Value.slice a l.length c] 41 (0, 0))]) (fun i => l.length - i) 0 (Nat.zero_le _) (by simp only [Le_nil, Le_cons, List.take_zero, rowT]; simp (disch := first | assumption | exact Ne.symm (by assumption) | omega) only [↓ZD, ZU, ZR, Za, Zb, Zc, Zd, Ze, Zf, Zg, Zh, Zi, Zj, Zk, Zl, Zm, Zn, Zo, Zp, Zq, Zr, reduceIte, reduceCtorEq, Zs, Zt, Zu, Zv]; try (first | done | rfl | simp)) (by simp only [HLe_nil, HLe_cons]; simp (disch := first | assumption | exact Ne.symm (by assumption) | omega) only [↓ZD, ZU, ZR, Za, Zb, Zc, Zd, Ze, Zf, Zg, Zh, Zi, Zj, Zk, Zl, Zm, Zn, Zo, Zp, Zq, Zr, reduceIte, reduceCtorEq, Zs, Zt, Zu, Zv]) ?_
      rintro i hi
      have hue := uids_len l
      have hql := rowQ_len (uidsT l)
      have hul : (uidsT l).length = l.length := by simp [uidsT]
      by_cases hlt : i < l.length
      · have hd : decide ((i : Int) < (l.length : Int)) = true := by simp; omega
        have gx : l[i]? = some (l.getD i ([], [])) := getDs _ hlt
        generalize l.getD i ([], []) = p at gx
        have gu : (uidsT l)[i]? = some (uidT p.1 p.2) := by simp [uidsT, gx]
        have hps := sumP_mem (List.mem_of_getElem? gx)
        have hru2 := fun F' : Base => ruid_pure F' p.1 p.2 (by unfold Sm; omega) (by unfold Sm; omega)
        have hle := rowT_take_le ahQ (uidsT l) (i + 1)
        have e9 := rowT_take ahQ gu
        rw [e9] at hle
        simp only [List.length_append] at hle
        obtain ⟨ba, oa, rfl, hla⟩ := (hh i p gx).ldn
        by_cases h0 : 0 < i
        · have hz : decide ((0 : Int) < (i : Int)) = true := by simp; omega
          rw [if_pos h0] at hle
          simp only [List.length_cons, List.length_nil, ahQ] at hle
          simp (disch := first | assumption | exact Ne.symm (by assumption) | omega) only [hact', hF3, e0, e1, e2, e3, e4, e5, hd, hz, ↓hla, Int.toNat_natCast, Nat.mul_one, Int.reduceBEq, ↓ZD, ZU, ZR, Za, Zb, Zc, Zd, Ze, Zf, Zg, Zh, Zi, Zj, Zk, Zl, Zm, Zn, Zo, Zp, Zq, Zr, reduceIte, reduceCtorEq, Zs, Zt, Zu, Zv]
          repeat (refine conj.of (by (try simp only [List.length_append, List.length_cons, List.length_nil]); omega) ?_; simp (disch := first | assumption | exact Ne.symm (by assumption) | omega) only [hact', hF3, e0, e1, e2, e3, e4, e5, hd, hz, ↓hla, Int.toNat_natCast, Nat.mul_one, Int.reduceBEq, ↓ZD, ZU, ZR, Za, Zb, Zc, Zd, Ze, Zf, Zg, Zh, Zi, Zj, Zk, Zl, Zm, Zn, Zo, Zp, Zq, Zr, reduceIte, reduceCtorEq, Zs, Zt, Zu, Zv])
          refine CallE.pure (hru2 _) ?_
          simp (disch := first | assumption | exact Ne.symm (by assumption) | omega) only [hact', hF3, e0, e1, e2, e3, e4, e5, hd, hz, ↓hla, Int.toNat_natCast, Nat.mul_one, Int.reduceBEq, ↓ZD, ZU, ZR, Za, Zb, Zc, Zd, Ze, Zf, Zg, Zh, Zi, Zj, Zk, Zl, Zm, Zn, Zo, Zp, Zq, Zr, reduceIte, reduceCtorEq, Zs, Zt, Zu, Zv]
          repeat (refine conj.of (by (try simp only [List.length_append, List.length_cons, List.length_nil]); omega) ?_; simp (disch := first | assumption | exact Ne.symm (by assumption) | omega) only [hact', hF3, e0, e1, e2, e3, e4, e5, hd, hz, ↓hla, Int.toNat_natCast, Nat.mul_one, Int.reduceBEq, ↓ZD, ZU, ZR, Za, Zb, Zc, Zd, Ze, Zf, Zg, Zh, Zi, Zj, Zk, Zl, Zm, Zn, Zo, Zp, Zq, Zr, reduceIte, reduceCtorEq, Zs, Zt, Zu, Zv])
          refine invK.on (i + 1) (by omega) (by omega) ?_ ?_
          · simp only [Le_nil, Le_cons, e9, if_pos h0]; simp (disch := first | assumption | exact Ne.symm (by assumption) | omega) only [↓ZD, ZU, ZR, Za, Zb, Zc, Zd, Ze, Zf, Zg, Zh, Zi, Zj, Zk, Zl, Zm, Zn, Zo, Zp, Zq, Zr, reduceIte, reduceCtorEq, Zs, Zt, Zu, Zv]; simp [ahQ]
          · simp only [HLe_nil, HLe_cons]; simp (disch := first | assumption | exact Ne.symm (by assumption) | omega) only [↓ZD, ZU, ZR, Za, Zb, Zc, Zd, Ze, Zf, Zg, Zh, Zi, Zj, Zk, Zl, Zm, Zn, Zo, Zp, Zq, Zr, reduceIte, reduceCtorEq, Zs, Zt, Zu, Zv]
        · have hz : decide ((0 : Int) < (i : Int)) = false := by simp; omega
          rw [if_neg h0] at hle
          simp only [List.length_cons, List.length_nil, ahQ] at hle
          simp (disch := first | assumption | exact Ne.symm (by assumption) | omega) only [hact', hF3, e0, e1, e2, e3, e4, e5, hd, hz, ↓hla, Int.toNat_natCast, Nat.mul_one, Int.reduceBEq, ↓ZD, ZU, ZR, Za, Zb, Zc, Zd, Ze, Zf, Zg, Zh, Zi, Zj, Zk, Zl, Zm, Zn, Zo, Zp, Zq, Zr, reduceIte, reduceCtorEq, Zs, Zt, Zu, Zv]
          repeat (refine conj.of (by (try simp only [List.length_append, List.length_cons, List.length_nil]); omega) ?_; simp (disch := first | assumption | exact Ne.symm (by assumption) | omega) only [hact', hF3, e0, e1, e2, e3, e4, e5, hd, hz, ↓hla, Int.toNat_natCast, Nat.mul_one, Int.reduceBEq, ↓ZD, ZU, ZR, Za, Zb, Zc, Zd, Ze, Zf, Zg, Zh, Zi, Zj, Zk, Zl, Zm, Zn, Zo, Zp, Zq, Zr, reduceIte, reduceCtorEq, Zs, Zt, Zu, Zv])
          refine CallE.pure (hru2 _) ?_
          simp (disch := first | assumption | exact Ne.symm (by assumption) | omega) only [hact', hF3, e0, e1, e2, e3, e4, e5, hd, hz, ↓hla, Int.toNat_natCast, Nat.mul_one, Int.reduceBEq, ↓ZD, ZU, ZR, Za, Zb, Zc, Zd, Ze, Zf, Zg, Zh, Zi, Zj, Zk, Zl, Zm, Zn, Zo, Zp, Zq, Zr, reduceIte, reduceCtorEq, Zs, Zt, Zu, Zv]
          repeat (refine conj.of (by (try simp only [List.length_append, List.length_cons, List.length_nil]); omega) ?_; simp (disch := first | assumption | exact Ne.symm (by assumption) | omega) only [hact', hF3, e0, e1, e2, e3, e4, e5, hd, hz, ↓hla, Int.toNat_natCast, Nat.mul_one, Int.reduceBEq, ↓ZD, ZU, ZR, Za, Zb, Zc, Zd, Ze, Zf, Zg, Zh, Zi, Zj, Zk, Zl, Zm, Zn, Zo, Zp, Zq, Zr, reduceIte, reduceCtorEq, Zs, Zt, Zu, Zv])
          refine invK.on (i + 1) (by omega) (by omega) ?_ ?_
          · simp only [Le_nil, Le_cons, e9, if_neg h0]; simp (disch := first | assumption | exact Ne.symm (by assumption) | omega) only [↓ZD, ZU, ZR, Za, Zb, Zc, Zd, Ze, Zf, Zg, Zh, Zi, Zj, Zk, Zl, Zm, Zn, Zo, Zp, Zq, Zr, reduceIte, reduceCtorEq, Zs, Zt, Zu, Zv]; simp [ahQ]
          · simp only [HLe_nil, HLe_cons]; simp (disch := first | assumption | exact Ne.symm (by assumption) | omega) only [↓ZD, ZU, ZR, Za, Zb, Zc, Zd, Ze, Zf, Zg, Zh, Zi, Zj, Zk, Zl, Zm, Zn, Zo, Zp, Zq, Zr, reduceIte, reduceCtorEq, Zs, Zt, Zu, Zv]
      · have hd : decide ((i : Int) < (l.length : Int)) = false := by simp; omega
        obtain rfl : i = l.length := by omega
        rw [List.take_of_length_le (l := uidsT l) (by omega)]
        simp (disch := first | assumption | exact Ne.symm (by assumption) | omega) only [hact', hF3, e0, e1, e2, e3, e4, e5, hd, Int.reduceBEq, ↓ZD, ZU, ZR, Za, Zb, Zc, Zd, Ze, Zf, Zg, Zh, Zi, Zj, Zk, Zl, Zm, Zn, Zo, Zp, Zq, Zr, reduceIte, reduceCtorEq, Zs, Zt, Zu, Zv]
        repeat (refine conj.of (by (try simp only [List.length_append, List.length_cons, List.length_nil]); omega) ?_; simp (disch := first | assumption | exact Ne.symm (by assumption) | omega) only [hact', hF3, e0, e1, e2, e3, e4, e5, hd, Int.reduceBEq, ↓ZD, ZU, ZR, Za, Zb, Zc, Zd, Ze, Zf, Zg, Zh, Zi, Zj, Zk, Zl, Zm, Zn, Zo, Zp, Zq, Zr, reduceIte, reduceCtorEq, Zs, Zt, Zu, Zv])
        simp [← hT, ← hO, hna, k0, k1, k2, k3, k4, k5]
end Go.Proofs.YtoelfmmfjebabaaDoor
