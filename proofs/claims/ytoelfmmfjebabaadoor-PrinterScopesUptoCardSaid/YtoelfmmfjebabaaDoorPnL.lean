/- Layer 10: a row of texts, of the reference. -/
import Derived.Test.YtoelfmmfjebabaaDoorPnK
namespace Go.Proofs.YtoelfmmfjebabaaDoor
open Go Go.Eng
open Int renaming reduceEq → Za, reduceToNat → Zm, reduceLE → Zn, reduceLT → Zo, reduceAdd → Zp, reduceSub → Zq, reduceNeg → Zr, reducePow → Zt, reduceNegSucc → Zv
open UInt8 renaming reduceOfNat → Zb
open List renaming mapM_cons → Zc, mapM_nil → Zd
open Nat renaming reduceAdd → Ze, reduceMul → Zf, reduceMod → Zg, reduceDiv → Zh, reduceEqDiff → Zi, reduceBEq → Zj, reduceLeDiff → Zk, reduceSub → Zl, reducePow → Zs, reduceLT → Zu
set_option linter.unusedSimpArgs false
set_option linter.unusedVariables false
set_option maxRecDepth 20000

theorem rowT_snoc (ahead : Nat → Str) (t : Str) : ∀ (l : List Str) (j : Nat), rowT ahead j (l ++ [t]) = rowT ahead j l ++ ((if 0 < j + l.length then [44, 32] else []) ++ (ahead (j + l.length) ++ t))
  | [], j => by simp [rowT]
  | x :: l, j => by
    rw [List.cons_append, rowT, rowT, rowT_snoc ahead t l (j + 1)]
    simp only [List.append_assoc, List.length_cons]
    rw [show j + 1 + l.length = j + (l.length + 1) by omega]
theorem rowT_take (ahead : Nat → Str) {l : List Str} {i : Nat} {t : Str} (h : l[i]? = some t) : rowT ahead 0 (l.take (i + 1)) = rowT ahead 0 (l.take i) ++ ((if 0 < i then [44, 32] else []) ++ (ahead i ++ t)) := by
  have hi : i < l.length := (List.getElem?_eq_some_iff.mp h).1
  rw [take_snoc h, rowT_snoc, List.length_take, Nat.min_eq_left (by omega), Nat.zero_add]
theorem rowT_app (ahead : Nat → Str) : ∀ (l m : List Str) (j : Nat), rowT ahead j (l ++ m) = rowT ahead j l ++ rowT ahead (j + l.length) m
  | [], m, j => by simp [rowT]
  | x :: l, m, j => by
    rw [List.cons_append, rowT, rowT, rowT_app ahead l m (j + 1)]
    simp only [List.append_assoc, List.length_cons]
    rw [show j + 1 + l.length = j + (l.length + 1) by omega]
theorem rowT_take_le (ahead : Nat → Str) (l : List Str) (i : Nat) : (rowT ahead 0 (l.take i)).length ≤ (rowT ahead 0 l).length := by
  have e := rowT_app ahead (l.take i) (l.drop i) 0
  rw [List.take_append_drop] at e
  rw [e, List.length_append]; omega
def ahN (names : List Str) (i : Nat) : Str := quote (names.getD i []) ++ [58, 32]
def ahQ (_ : Nat) : Str := []
theorem rrow_set (F : Base) {op : Int} {v : LV} {u1 u2 vn : Value} {nm : Str} {a1 : Option Addr} {n1 c1 : Nat} {names : List Str} (hN : SlS F vn names) (hop : op ≠ 20) {vk : Value} {ks : List Str} (hk : SlS F vk ks) (hl : (rowT ahQ 0 ks).length ≤ 100000000000000) :
    PureV Tryd.prog F 38 #[.agg (xcells op v u1 u2 nm (.slice a1 n1 c1) vn).toArray, vk] (.string (bs (91 :: (rowT ahQ 0 ks ++ [93])))) := by
  obtain ⟨an, cn, rfl, hcn, -⟩ := hN
  obtain ⟨ak, ck, rfl, hck, hlk, hh⟩ := hk
  have eo : (op == 20) = false := by simpa using hop
  refine pureV_of_svc mixed Tryd.func38 low38 (Nat.le_of_ble_eq_true rfl) (fun w0 => ?_)
  unfold xcells
  simp (disch := first | assumption | exact Ne.symm (by assumption) | omega) only [fu38, ↓ZD, ZU, ZR, Za, Zb, Zc, Zd, Ze, Zf, Zg, Zh, Zi, Zj, Zk, Zl, Zm, Zn, Zo, Zp, Zq, Zr, reduceIte, reduceCtorEq, Zs, Zt, Zu, Zv]
  refine NewB.of fun b1 hb1 hF1 => ?_
  simp (disch := first | assumption | exact Ne.symm (by assumption) | omega) only [hF1, eo, ↓ZD, ZU, ZR, Za, Zb, Zc, Zd, Ze, Zf, Zg, Zh, Zi, Zj, Zk, Zl, Zm, Zn, Zo, Zp, Zq, Zr, reduceIte, reduceCtorEq, Zs, Zt, Zu, Zv]
  refine LoopL.inv (α := Nat) (fun i => i ≤ ks.length)
    (fun i => [(1, some (.slice ak ks.length ck)), (2, some (.pointer (some ⟨b1, 0, none⟩))), (5, some (.string (bs (91 :: rowT ahQ 0 (ks.take i))))), (6, some (.int .i64 i))])
    (fun i => [(b1, .cells (xcells op v u1 u2 nm (.slice a1 n1 c1) (.slice an names.length cn)).toArray 30 (0, 0))])
    (fun i => ks.length - i) 0 (Nat.zero_le _) (by (simp only [Le_nil, Le_cons]; simp (disch := first | assumption | exact Ne.symm (by assumption) | omega) only [↓ZD, ZU, ZR, Za, Zb, Zc, Zd, Ze, Zf, Zg, Zh, Zi, Zj, Zk, Zl, Zm, Zn, Zo, Zp, Zq, Zr, reduceIte, reduceCtorEq, Zs, Zt, Zu, Zv]; try trivial)) (by simp only [HLe_nil, HLe_cons, xcells]; simp (disch := first | assumption | exact Ne.symm (by assumption) | omega) only [↓ZD, ZU, ZR, Za, Zb, Zc, Zd, Ze, Zf, Zg, Zh, Zi, Zj, Zk, Zl, Zm, Zn, Zo, Zp, Zq, Zr, reduceIte, reduceCtorEq, Zs, Zt, Zu, Zv]) ?_
  rintro i hi
  by_cases hlt : i < ks.length
  · have hd : decide ((i : Int) < (ks.length : Int)) = true := by simp; omega
    have gx := getS hlt
    have hle := rowT_take_le ahQ ks (i + 1)
    rw [rowT_take ahQ gx] at hle
    simp only [List.length_append] at hle
    obtain ⟨ba, oa, rfl, hla⟩ := (hh.1 i _ gx).ld1
    simp only [Nat.mul_one] at hla
    unfold xcells
    have e2 : rowT ahQ 0 (ks.take (i + 1)) = rowT ahQ 0 (ks.take i) ++ ((if 0 < i then [44, 32] else []) ++ ks.getD i []) := by rw [rowT_take ahQ gx]; rfl
    by_cases h0 : 0 < i
    · have hz : decide ((0 : Int) < (i : Int)) = true := by simp; omega
      rw [if_pos h0] at e2 hle
      simp only [List.length_cons, List.length_nil] at hle
      simp (disch := first | assumption | exact Ne.symm (by assumption) | omega) only [hF1, hd, hz, eo, Nat.mul_one, ↓ZD, ZU, ZR, Za, Zb, Zc, Zd, Ze, Zf, Zg, Zh, Zi, Zj, Zk, Zl, Zm, Zn, Zo, Zp, Zq, Zr, reduceIte, reduceCtorEq, Zs, Zt, Zu, Zv]
      refine conj.of (by omega) ?_
      simp (disch := first | assumption | exact Ne.symm (by assumption) | omega) only [hF1, hd, hz, eo, Nat.mul_one, ↓ZD, ZU, ZR, Za, Zb, Zc, Zd, Ze, Zf, Zg, Zh, Zi, Zj, Zk, Zl, Zm, Zn, Zo, Zp, Zq, Zr, reduceIte, reduceCtorEq, Zs, Zt, Zu, Zv]
      refine conj.of (by omega) ?_
      simp (disch := first | assumption | exact Ne.symm (by assumption) | omega) only [hF1, hd, hz, eo, Int.toNat_natCast, Nat.mul_one, ↓hla, ↓ZD, ZU, ZR, Za, Zb, Zc, Zd, Ze, Zf, Zg, Zh, Zi, Zj, Zk, Zl, Zm, Zn, Zo, Zp, Zq, Zr, reduceIte, reduceCtorEq, Zs, Zt, Zu, Zv]
      refine conj.of (by omega) ?_
      simp (disch := first | assumption | exact Ne.symm (by assumption) | omega) only [hF1, ↓ZD, ZU, ZR, Za, Zb, Zc, Zd, Ze, Zf, Zg, Zh, Zi, Zj, Zk, Zl, Zm, Zn, Zo, Zp, Zq, Zr, reduceIte, reduceCtorEq, Zs, Zt, Zu, Zv]
      refine invK.on (i + 1) (by omega) (by omega) ?_ ?_
      · simp only [Le_nil, Le_cons, e2]
        simp (disch := first | assumption | exact Ne.symm (by assumption) | omega) only [↓ZD, ZU, ZR, Za, Zb, Zc, Zd, Ze, Zf, Zg, Zh, Zi, Zj, Zk, Zl, Zm, Zn, Zo, Zp, Zq, Zr, reduceIte, reduceCtorEq, Zs, Zt, Zu, Zv]
        simp only [List.append_assoc, List.cons_append, List.nil_append]
        exact ⟨trivial, rfl⟩
      · simp only [HLe_nil, HLe_cons, xcells]
        simp (disch := first | assumption | exact Ne.symm (by assumption) | omega) only [↓ZD, ZU, ZR, Za, Zb, Zc, Zd, Ze, Zf, Zg, Zh, Zi, Zj, Zk, Zl, Zm, Zn, Zo, Zp, Zq, Zr, reduceIte, reduceCtorEq, Zs, Zt, Zu, Zv]
    · have hz : decide ((0 : Int) < (i : Int)) = false := by simp; omega
      rw [if_neg h0] at e2 hle
      simp (disch := first | assumption | exact Ne.symm (by assumption) | omega) only [hF1, hd, hz, eo, Nat.mul_one, ↓ZD, ZU, ZR, Za, Zb, Zc, Zd, Ze, Zf, Zg, Zh, Zi, Zj, Zk, Zl, Zm, Zn, Zo, Zp, Zq, Zr, reduceIte, reduceCtorEq, Zs, Zt, Zu, Zv]
      refine conj.of (by omega) ?_
      simp (disch := first | assumption | exact Ne.symm (by assumption) | omega) only [hF1, hd, hz, eo, Int.toNat_natCast, Nat.mul_one, ↓hla, ↓ZD, ZU, ZR, Za, Zb, Zc, Zd, Ze, Zf, Zg, Zh, Zi, Zj, Zk, Zl, Zm, Zn, Zo, Zp, Zq, Zr, reduceIte, reduceCtorEq, Zs, Zt, Zu, Zv]
      refine conj.of (by omega) ?_
      simp (disch := first | assumption | exact Ne.symm (by assumption) | omega) only [hF1, ↓ZD, ZU, ZR, Za, Zb, Zc, Zd, Ze, Zf, Zg, Zh, Zi, Zj, Zk, Zl, Zm, Zn, Zo, Zp, Zq, Zr, reduceIte, reduceCtorEq, Zs, Zt, Zu, Zv]
      refine invK.on (i + 1) (by omega) (by omega) ?_ ?_
      · simp only [Le_nil, Le_cons, e2]
        simp (disch := first | assumption | exact Ne.symm (by assumption) | omega) only [↓ZD, ZU, ZR, Za, Zb, Zc, Zd, Ze, Zf, Zg, Zh, Zi, Zj, Zk, Zl, Zm, Zn, Zo, Zp, Zq, Zr, reduceIte, reduceCtorEq, Zs, Zt, Zu, Zv]
        rfl
      · simp only [HLe_nil, HLe_cons, xcells]
        simp (disch := first | assumption | exact Ne.symm (by assumption) | omega) only [↓ZD, ZU, ZR, Za, Zb, Zc, Zd, Ze, Zf, Zg, Zh, Zi, Zj, Zk, Zl, Zm, Zn, Zo, Zp, Zq, Zr, reduceIte, reduceCtorEq, Zs, Zt, Zu, Zv]
  · have hd : decide ((i : Int) < (ks.length : Int)) = false := by simp; omega
    obtain rfl : i = ks.length := by omega
    rw [List.take_length]
    unfold xcells
    simp (disch := first | assumption | exact Ne.symm (by assumption) | omega) only [hF1, hd, eo, ↓ZD, ZU, ZR, Za, Zb, Zc, Zd, Ze, Zf, Zg, Zh, Zi, Zj, Zk, Zl, Zm, Zn, Zo, Zp, Zq, Zr, reduceIte, reduceCtorEq, Zs, Zt, Zu, Zv]
    refine conj.of (by omega) ?_
    simp (disch := first | assumption | exact Ne.symm (by assumption) | omega) only [↓ZD, ZU, ZR, Za, Zb, Zc, Zd, Ze, Zf, Zg, Zh, Zi, Zj, Zk, Zl, Zm, Zn, Zo, Zp, Zq, Zr, reduceIte, reduceCtorEq, Zs, Zt, Zu, Zv]
    first | done | rfl
theorem rrow_rec (F : Base) {op : Int} {v : LV} {u1 u2 vn : Value} {nm : Str} {a1 : Option Addr} {n1 c1 : Nat} {names : List Str} (hN : SlS F vn names) (hop : op = 20) {vk : Value} {ks : List Str} (hk : SlS F vk ks) (hnn : names.length = ks.length) (hq : ∀ x ∈ names, Sm x) (hl : (rowT (ahN names) 0 ks).length ≤ 100000000000000) :
    PureV Tryd.prog F 38 #[.agg (xcells op v u1 u2 nm (.slice a1 n1 c1) vn).toArray, vk] (.string (bs (123 :: (rowT (ahN names) 0 ks ++ [125])))) := by
  obtain ⟨an, cn, rfl, hcn, hln, hhn⟩ := hN
  obtain ⟨ak, ck, rfl, hck, hlk, hh⟩ := hk
  have eo : (op == 20) = true := by simpa using hop
  refine pureV_of_svc mixed Tryd.func38 low38 (Nat.le_of_ble_eq_true rfl) (fun w0 => ?_)
  unfold xcells
  simp (disch := first | assumption | exact Ne.symm (by assumption) | omega) only [fu38, ↓ZD, ZU, ZR, Za, Zb, Zc, Zd, Ze, Zf, Zg, Zh, Zi, Zj, Zk, Zl, Zm, Zn, Zo, Zp, Zq, Zr, reduceIte, reduceCtorEq, Zs, Zt, Zu, Zv]
  refine NewB.of fun b1 hb1 hF1 => ?_
  simp (disch := first | assumption | exact Ne.symm (by assumption) | omega) only [hF1, eo, ↓ZD, ZU, ZR, Za, Zb, Zc, Zd, Ze, Zf, Zg, Zh, Zi, Zj, Zk, Zl, Zm, Zn, Zo, Zp, Zq, Zr, reduceIte, reduceCtorEq, Zs, Zt, Zu, Zv]
  refine LoopL.inv (α := Nat) (fun i => i ≤ ks.length)
    (fun i => [(1, some (.slice ak ks.length ck)), (2, some (.pointer (some ⟨b1, 0, none⟩))), (5, some (.string (bs (123 :: rowT (ahN names) 0 (ks.take i))))), (6, some (.int .i64 i))])
    (fun i => [(b1, .cells (xcells op v u1 u2 nm (.slice a1 n1 c1) (.slice an names.length cn)).toArray 30 (0, 0))])
    (fun i => ks.length - i) 0 (Nat.zero_le _) (by (simp only [Le_nil, Le_cons]; simp (disch := first | assumption | exact Ne.symm (by assumption) | omega) only [↓ZD, ZU, ZR, Za, Zb, Zc, Zd, Ze, Zf, Zg, Zh, Zi, Zj, Zk, Zl, Zm, Zn, Zo, Zp, Zq, Zr, reduceIte, reduceCtorEq, Zs, Zt, Zu, Zv]; try trivial)) (by simp only [HLe_nil, HLe_cons, xcells]; simp (disch := first | assumption | exact Ne.symm (by assumption) | omega) only [↓ZD, ZU, ZR, Za, Zb, Zc, Zd, Ze, Zf, Zg, Zh, Zi, Zj, Zk, Zl, Zm, Zn, Zo, Zp, Zq, Zr, reduceIte, reduceCtorEq, Zs, Zt, Zu, Zv]) ?_
  rintro i hi
  by_cases hlt : i < ks.length
  · have hd : decide ((i : Int) < (ks.length : Int)) = true := by simp; omega
    have gx := getS hlt
    have gn := getS (l := names) (i := i) (by omega)
    have hqs := hq _ (List.mem_of_getElem? gn)
    unfold Sm at hqs
    have hql := quote_len (names.getD i [])
    have hqp := rquote_pure F (names.getD i []) (by omega)
    have hae : ahN names i = quote (names.getD i []) ++ [58, 32] := rfl
    obtain ⟨bn, on, rfl, hlan⟩ := (hhn.1 i _ gn).ld1
    simp only [Nat.mul_one] at hlan
    have hle := rowT_take_le (ahN names) ks (i + 1)
    rw [rowT_take (ahN names) gx] at hle
    simp only [hae, List.length_append, List.length_cons, List.length_nil] at hle
    obtain ⟨ba, oa, rfl, hla⟩ := (hh.1 i _ gx).ld1
    simp only [Nat.mul_one] at hla
    unfold xcells
    have e2 : rowT (ahN names) 0 (ks.take (i + 1)) = rowT (ahN names) 0 (ks.take i) ++ ((if 0 < i then [44, 32] else []) ++ (quote (names.getD i []) ++ ([58, 32] ++ ks.getD i []))) := by rw [rowT_take (ahN names) gx, hae, List.append_assoc]
    by_cases h0 : 0 < i
    · have hz : decide ((0 : Int) < (i : Int)) = true := by simp; omega
      rw [if_pos h0] at e2 hle
      simp only [List.length_cons, List.length_nil] at hle
      simp (disch := first | assumption | exact Ne.symm (by assumption) | omega) only [hF1, hd, hz, eo, Nat.mul_one, ↓ZD, ZU, ZR, Za, Zb, Zc, Zd, Ze, Zf, Zg, Zh, Zi, Zj, Zk, Zl, Zm, Zn, Zo, Zp, Zq, Zr, reduceIte, reduceCtorEq, Zs, Zt, Zu, Zv]
      refine conj.of (by omega) ?_
      simp (disch := first | assumption | exact Ne.symm (by assumption) | omega) only [hF1, hd, hz, eo, Nat.mul_one, ↓ZD, ZU, ZR, Za, Zb, Zc, Zd, Ze, Zf, Zg, Zh, Zi, Zj, Zk, Zl, Zm, Zn, Zo, Zp, Zq, Zr, reduceIte, reduceCtorEq, Zs, Zt, Zu, Zv]
      refine conj.of (by omega) ?_
      simp (disch := first | assumption | exact Ne.symm (by assumption) | omega) only [hF1, hd, hz, eo, Int.toNat_natCast, Nat.mul_one, ↓hlan, ↓ZD, ZU, ZR, Za, Zb, Zc, Zd, Ze, Zf, Zg, Zh, Zi, Zj, Zk, Zl, Zm, Zn, Zo, Zp, Zq, Zr, reduceIte, reduceCtorEq, Zs, Zt, Zu, Zv]
      refine CallE.pure hqp ?_
      simp (disch := first | assumption | exact Ne.symm (by assumption) | omega) only [hF1, ↓ZD, ZU, ZR, Za, Zb, Zc, Zd, Ze, Zf, Zg, Zh, Zi, Zj, Zk, Zl, Zm, Zn, Zo, Zp, Zq, Zr, reduceIte, reduceCtorEq, Zs, Zt, Zu, Zv]
      refine conj.of (by omega) ?_
      simp (disch := first | assumption | exact Ne.symm (by assumption) | omega) only [hF1, ↓ZD, ZU, ZR, Za, Zb, Zc, Zd, Ze, Zf, Zg, Zh, Zi, Zj, Zk, Zl, Zm, Zn, Zo, Zp, Zq, Zr, reduceIte, reduceCtorEq, Zs, Zt, Zu, Zv]
      refine conj.of (by (try simp only [List.length_append, List.length_cons, List.length_nil]); omega) ?_
      simp (disch := first | assumption | exact Ne.symm (by assumption) | omega) only [hF1, hd, hz, eo, Nat.mul_one, ↓ZD, ZU, ZR, Za, Zb, Zc, Zd, Ze, Zf, Zg, Zh, Zi, Zj, Zk, Zl, Zm, Zn, Zo, Zp, Zq, Zr, reduceIte, reduceCtorEq, Zs, Zt, Zu, Zv]
      refine conj.of (by omega) ?_
      simp (disch := first | assumption | exact Ne.symm (by assumption) | omega) only [hF1, hd, hz, eo, Int.toNat_natCast, Nat.mul_one, ↓hla, ↓ZD, ZU, ZR, Za, Zb, Zc, Zd, Ze, Zf, Zg, Zh, Zi, Zj, Zk, Zl, Zm, Zn, Zo, Zp, Zq, Zr, reduceIte, reduceCtorEq, Zs, Zt, Zu, Zv]
      refine conj.of (by (try simp only [List.length_append, List.length_cons, List.length_nil]); omega) ?_
      simp (disch := first | assumption | exact Ne.symm (by assumption) | omega) only [hF1, ↓ZD, ZU, ZR, Za, Zb, Zc, Zd, Ze, Zf, Zg, Zh, Zi, Zj, Zk, Zl, Zm, Zn, Zo, Zp, Zq, Zr, reduceIte, reduceCtorEq, Zs, Zt, Zu, Zv]
      refine invK.on (i + 1) (by omega) (by omega) ?_ ?_
      · simp only [Le_nil, Le_cons, e2]
        simp (disch := first | assumption | exact Ne.symm (by assumption) | omega) only [↓ZD, ZU, ZR, Za, Zb, Zc, Zd, Ze, Zf, Zg, Zh, Zi, Zj, Zk, Zl, Zm, Zn, Zo, Zp, Zq, Zr, reduceIte, reduceCtorEq, Zs, Zt, Zu, Zv]
        simp only [List.append_assoc, List.cons_append, List.nil_append]
        exact ⟨trivial, rfl⟩
      · simp only [HLe_nil, HLe_cons, xcells]
        simp (disch := first | assumption | exact Ne.symm (by assumption) | omega) only [↓ZD, ZU, ZR, Za, Zb, Zc, Zd, Ze, Zf, Zg, Zh, Zi, Zj, Zk, Zl, Zm, Zn, Zo, Zp, Zq, Zr, reduceIte, reduceCtorEq, Zs, Zt, Zu, Zv]
    · have hz : decide ((0 : Int) < (i : Int)) = false := by simp; omega
      rw [if_neg h0] at e2 hle
      simp (disch := first | assumption | exact Ne.symm (by assumption) | omega) only [hF1, hd, hz, eo, Nat.mul_one, ↓ZD, ZU, ZR, Za, Zb, Zc, Zd, Ze, Zf, Zg, Zh, Zi, Zj, Zk, Zl, Zm, Zn, Zo, Zp, Zq, Zr, reduceIte, reduceCtorEq, Zs, Zt, Zu, Zv]
      refine conj.of (by omega) ?_
      simp (disch := first | assumption | exact Ne.symm (by assumption) | omega) only [hF1, hd, hz, eo, Int.toNat_natCast, Nat.mul_one, ↓hlan, ↓ZD, ZU, ZR, Za, Zb, Zc, Zd, Ze, Zf, Zg, Zh, Zi, Zj, Zk, Zl, Zm, Zn, Zo, Zp, Zq, Zr, reduceIte, reduceCtorEq, Zs, Zt, Zu, Zv]
      refine CallE.pure hqp ?_
      simp (disch := first | assumption | exact Ne.symm (by assumption) | omega) only [hF1, ↓ZD, ZU, ZR, Za, Zb, Zc, Zd, Ze, Zf, Zg, Zh, Zi, Zj, Zk, Zl, Zm, Zn, Zo, Zp, Zq, Zr, reduceIte, reduceCtorEq, Zs, Zt, Zu, Zv]
      refine conj.of (by omega) ?_
      simp (disch := first | assumption | exact Ne.symm (by assumption) | omega) only [hF1, ↓ZD, ZU, ZR, Za, Zb, Zc, Zd, Ze, Zf, Zg, Zh, Zi, Zj, Zk, Zl, Zm, Zn, Zo, Zp, Zq, Zr, reduceIte, reduceCtorEq, Zs, Zt, Zu, Zv]
      refine conj.of (by (try simp only [List.length_append, List.length_cons, List.length_nil]); omega) ?_
      simp (disch := first | assumption | exact Ne.symm (by assumption) | omega) only [hF1, hd, hz, eo, Nat.mul_one, ↓ZD, ZU, ZR, Za, Zb, Zc, Zd, Ze, Zf, Zg, Zh, Zi, Zj, Zk, Zl, Zm, Zn, Zo, Zp, Zq, Zr, reduceIte, reduceCtorEq, Zs, Zt, Zu, Zv]
      refine conj.of (by omega) ?_
      simp (disch := first | assumption | exact Ne.symm (by assumption) | omega) only [hF1, hd, hz, eo, Int.toNat_natCast, Nat.mul_one, ↓hla, ↓ZD, ZU, ZR, Za, Zb, Zc, Zd, Ze, Zf, Zg, Zh, Zi, Zj, Zk, Zl, Zm, Zn, Zo, Zp, Zq, Zr, reduceIte, reduceCtorEq, Zs, Zt, Zu, Zv]
      refine conj.of (by (try simp only [List.length_append, List.length_cons, List.length_nil]); omega) ?_
      simp (disch := first | assumption | exact Ne.symm (by assumption) | omega) only [hF1, ↓ZD, ZU, ZR, Za, Zb, Zc, Zd, Ze, Zf, Zg, Zh, Zi, Zj, Zk, Zl, Zm, Zn, Zo, Zp, Zq, Zr, reduceIte, reduceCtorEq, Zs, Zt, Zu, Zv]
      refine invK.on (i + 1) (by omega) (by omega) ?_ ?_
      · simp only [Le_nil, Le_cons, e2]
        simp (disch := first | assumption | exact Ne.symm (by assumption) | omega) only [↓ZD, ZU, ZR, Za, Zb, Zc, Zd, Ze, Zf, Zg, Zh, Zi, Zj, Zk, Zl, Zm, Zn, Zo, Zp, Zq, Zr, reduceIte, reduceCtorEq, Zs, Zt, Zu, Zv]
        simp only [List.append_assoc, List.cons_append, List.nil_append]
        exact ⟨trivial, rfl⟩
      · simp only [HLe_nil, HLe_cons, xcells]
        simp (disch := first | assumption | exact Ne.symm (by assumption) | omega) only [↓ZD, ZU, ZR, Za, Zb, Zc, Zd, Ze, Zf, Zg, Zh, Zi, Zj, Zk, Zl, Zm, Zn, Zo, Zp, Zq, Zr, reduceIte, reduceCtorEq, Zs, Zt, Zu, Zv]
  · have hd : decide ((i : Int) < (ks.length : Int)) = false := by simp; omega
    obtain rfl : i = ks.length := by omega
    rw [List.take_length]
    unfold xcells
    simp (disch := first | assumption | exact Ne.symm (by assumption) | omega) only [hF1, hd, eo, ↓ZD, ZU, ZR, Za, Zb, Zc, Zd, Ze, Zf, Zg, Zh, Zi, Zj, Zk, Zl, Zm, Zn, Zo, Zp, Zq, Zr, reduceIte, reduceCtorEq, Zs, Zt, Zu, Zv]
    refine conj.of (by omega) ?_
    simp (disch := first | assumption | exact Ne.symm (by assumption) | omega) only [↓ZD, ZU, ZR, Za, Zb, Zc, Zd, Ze, Zf, Zg, Zh, Zi, Zj, Zk, Zl, Zm, Zn, Zo, Zp, Zq, Zr, reduceIte, reduceCtorEq, Zs, Zt, Zu, Zv]
    first | done | rfl
end Go.Proofs.YtoelfmmfjebabaaDoor
