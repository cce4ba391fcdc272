/- Layer 10: an expression's text, of the reference. -/
import Derived.Test.YtoelfmmfjebabaaDoorPnL
namespace Go.Proofs.YtoelfmmfjebabaaDoor
open Go Go.Eng
open Int renaming reduceEq → Za, reduceToNat → Zm, reduceLE → Zn, reduceLT → Zo, reduceAdd → Zp, reduceSub → Zq, reduceNeg → Zr, reducePow → Zt, reduceNegSucc → Zv
open UInt8 renaming reduceOfNat → Zb
open List renaming mapM_cons → Zc, mapM_nil → Zd
open Nat renaming reduceAdd → Ze, reduceMul → Zf, reduceMod → Zg, reduceDiv → Zh, reduceEqDiff → Zi, reduceBEq → Zj, reduceLeDiff → Zk, reduceSub → Zl, reducePow → Zs, reduceLT → Zu
set_option linter.unusedSimpArgs false
set_option linter.unusedVariables false
set_option maxRecDepth 20000

/-- What the reference's Text returns as a text. -/
def rtx : Ex' → Str
  | .mk op v nm kids names => if arOk op kids.length names.length && okL kids then nodeT op v nm names (kids.map Ex'.op) (ptL kids) else []
theorem rtx_ok {e : Ex'} (h : okX e = true) : rtx e = pt e := by
  obtain ⟨op, v, nm, kids, names⟩ := e
  rw [okX, Bool.and_eq_true, Bool.and_eq_true] at h
  rw [rtx, pt, h.1, h.2.1]; rfl
theorem arOk_ref (op : Int) (nk nn : Nat) : (manyI op == -2 || (decide (0 ≤ manyI op) && ((nk : Int) != manyI op)) || (op == 20 && ((nn : Int) != (nk : Int)))) = !arOk op nk nn := by
  unfold arOk
  by_cases h : op < 1 ∨ 23 < op
  · have e1 : manyI op = -2 := by unfold manyI; rw [if_pos h]
    have e2 : kidsI op = 4 := by unfold kidsI; rw [if_pos h]
    rw [e1, e2]; simp
  · have e1 : manyI op = kidsI op := by unfold manyI; rw [if_neg h]
    have e2 : (kidsI op == -2) = false ∧ decide (3 < kidsI op) = false := by
      unfold kidsI
      rw [if_neg h]
      repeat' split
      all_goals simp
    rw [e1, e2.1, e2.2]
    simp
theorem arOk_of {op : Int} {nk nn : Nat} (h : arOk op nk nn = true) : 1 ≤ op ∧ op ≤ 23 ∧ (0 ≤ kidsI op → (nk : Int) = kidsI op) ∧ (op = 20 → nn = nk) := by
  unfold arOk at h
  simp only [Bool.and_eq_true, Bool.not_eq_true', Bool.or_eq_false_iff, Bool.and_eq_false_iff, decide_eq_false_iff_not, beq_eq_false_iff_ne, bne_eq_false_iff_eq] at h
  obtain ⟨⟨h1, h2⟩, h3⟩ := h
  have h4 : ¬ (op < 1 ∨ 23 < op) := fun hx => h1 (by unfold kidsI; rw [if_pos hx]; decide)
  refine ⟨by omega, by omega, fun h5 => (h2.resolve_left (fun hn => hn h5)), fun h5 => ?_⟩
  rcases h3 with h3 | h3
  · exact absurd h5 h3
  · omega
def cellsS (l : List Str) : List Value := l.map fun x => .string (bs x)
theorem ptL_app : ∀ l m, ptL (l ++ m) = ptL l ++ ptL m
  | [], m => by simp [ptL]
  | x :: l, m => by rw [List.cons_append, ptL, ptL, ptL_app]; rfl
theorem ptL_snoc {l : List Ex'} {i : Nat} {x : Ex'} (h : l[i]? = some x) : ptL (l.take (i + 1)) = ptL (l.take i) ++ [pt x] := by
  rw [take_snoc h, ptL_app]; simp [ptL]
theorem okL_all : ∀ l, okL l = l.all okX
  | [] => rfl
  | x :: l => by rw [okL, List.all_cons, okL_all l]
theorem beq_dec (a b : Str) : (a == b) = decide (a = b) := by rw [Bool.eq_iff_iff]; simp
theorem sum_zero (n : Nat) : ((List.range n).map fun _ => 0).sum = 0 := by
  generalize List.range n = L
  induction L with
  | nil => rfl
  | cons _ _ ih => simpa using ih
theorem sum_mem {x : Str} : ∀ {l : List Str}, x ∈ l → x.length + 1 ≤ (l.map fun x => x.length + 1).sum
  | y :: l, h => by
    rw [List.map_cons, List.sum_cons]
    rcases List.mem_cons.1 h with rfl | h
    · omega
    · have := sum_mem h; omega
theorem RepX.hd {F : Base} {cs : List Value} {x : Ex'} (h : RepX F cs x) : ∃ r, cs = .int .i64 x.op :: r := by
  cases h with
  | mk op v u1 u2 nm a1 c1 kids g1 vn names hu hop hk hn hl1 hc1 h1 r1 hN => exact ⟨_, rfl⟩
theorem own_slsK {F G : Base} {ks : List Str} {v : Value} {Ho : Hp} (ho : OwnS F 1 9 (ks.map fun x => Value.string (bs x)) ks.length v Ho) (hG : ∀ e ∈ Ho, G e.1 = some e.2) (hx : ∀ x ∈ ks, x.length ≤ 9223372036854775807) : SlS G v ks := by
  rcases ho.out with ⟨h1, h2, rfl, rfl⟩ | ⟨b5, cap5, sp5, rfl, rfl, hF5, hl, hs5, hc5, hm5⟩
  · refine ⟨none, 0, by rw [h2], by omega, by omega, fun i x hi => ?_, fun i x hi => hx x (List.mem_of_getElem? hi)⟩
    rw [List.length_eq_zero_iff.1 h2] at hi; simp at hi
  · refine ⟨_, cap5, rfl, hc5, by omega, fun i x hi => ?_, fun i x hi => hx x (List.mem_of_getElem? hi)⟩
    have hlt : i < ks.length := (List.getElem?_eq_some_iff.mp hi).1
    refine ⟨b5, 0, _, _, _, rfl, hG _ (List.mem_singleton.2 rfl), by simp; omega, ?_⟩
    apply List.ext_getElem?
    intro k
    rcases k with _ | k
    · simp only [Nat.zero_add, Nat.mul_one, List.getElem?_cons_zero]
      rw [List.getElem?_take_of_lt (by omega), List.getElem?_drop, Nat.add_zero, List.getElem?_append_left (by simpa using hlt), List.getElem?_map, hi]; rfl
    · simp; omega
set_option maxHeartbeats 4000000 in
theorem rtext_pure (F : Base) {cs : List Value} {e : Ex'} (h : RepX F cs e) : wt e ≤ 1048576 → PureV Tryd.prog F 18 #[.agg cs.toArray] (.tuple #[.string (bs (rtx e)), .bool (okX e)]) := by
  induction h with
  | mk op v u1 u2 nm a1 c1 kids g1 vn names hu hop hk hn hl1 hc1 h1 r1 hN i1 =>
    intro hw
    have hN0 := hN
    obtain ⟨an, cn, rfl, hcn, -⟩ := hN
    rw [wt] at hw
    have hwl := wtL_len kids
    have km := many_pure F op
    have har := arOk_ref op kids.length names.length
    refine pureV_of_svc mixed Tryd.func18 low18 (Nat.le_of_ble_eq_true rfl) (fun w0 => ?_)
    unfold xcells
    simp (disch := first | assumption | exact Ne.symm (by assumption) | omega) only [fu18, ↓ZD, ZU, ZR, Za, Zb, Zc, Zd, Ze, Zf, Zg, Zh, Zi, Zj, Zk, Zl, Zm, Zn, Zo, Zp, Zq, Zr, reduceIte, reduceCtorEq, Zs, Zt, Zu, Zv]
    refine NewB.of fun b1 hb1 hF1 => ?_
    simp (disch := first | assumption | exact Ne.symm (by assumption) | omega) only [hF1, ↓ZD, ZU, ZR, Za, Zb, Zc, Zd, Ze, Zf, Zg, Zh, Zi, Zj, Zk, Zl, Zm, Zn, Zo, Zp, Zq, Zr, reduceIte, reduceCtorEq, Zs, Zt, Zu, Zv]
    refine CallE.pure km ?_
    simp (disch := first | assumption | exact Ne.symm (by assumption) | omega) only [hF1, har, ↓ZD, ZU, ZR, Za, Zb, Zc, Zd, Ze, Zf, Zg, Zh, Zi, Zj, Zk, Zl, Zm, Zn, Zo, Zp, Zq, Zr, reduceIte, reduceCtorEq, Zs, Zt, Zu, Zv]
    rw [rtx, okX]
    refine ⟨fun hx => ?_, fun hx => ?_⟩
    · have hx' : arOk op kids.length names.length = false := by simpa using hx
      rw [hx']; rfl
    have hx' : arOk op kids.length names.length = true := by simpa using hx
    rw [hx', Bool.true_and, Bool.true_and, okL_all]
    refine LoopL.inv (α := Nat × Value × Hp) (fun z => z.1 ≤ kids.length ∧ (kids.take z.1).all okX = true ∧ OwnS F 1 9 (cellsS (ptL (kids.take z.1))) z.1 z.2.1 z.2.2 ∧ ∀ e ∈ z.2.2, e.1 ≠ b1)
      (fun z => [(1, some (.pointer (some ⟨b1, 0, none⟩))), (5, some z.2.1), (6, some (.int .i64 z.1))])
      (fun z => (b1, .cells (xcells op v u1 u2 nm (.slice a1 kids.length c1) (.slice an names.length cn)).toArray 30 (0, 0)) :: z.2.2)
      (fun z => kids.length - z.1) (0, .slice none 0 0, []) ⟨Nat.zero_le _, rfl, .nil, by simp⟩ (by (simp only [Le_nil, Le_cons]; simp (disch := first | assumption | exact Ne.symm (by assumption) | omega) only [↓ZD, ZU, ZR, Za, Zb, Zc, Zd, Ze, Zf, Zg, Zh, Zi, Zj, Zk, Zl, Zm, Zn, Zo, Zp, Zq, Zr, reduceIte, reduceCtorEq, Zs, Zt, Zu, Zv]; try trivial)) ⟨by simp only [xcells]; simp (disch := first | assumption | exact Ne.symm (by assumption) | omega) only [↓ZD, ZU, ZR, Za, Zb, Zc, Zd, Ze, Zf, Zg, Zh, Zi, Zj, Zk, Zl, Zm, Zn, Zo, Zp, Zq, Zr, reduceIte, reduceCtorEq, Zs, Zt, Zu, Zv], trivial⟩ ?_
    rintro ⟨i, vk, Ho⟩ ⟨hi, ha, ho, hob⟩
    simp only at hi ha ho hob ⊢
    by_cases hlt : i < kids.length
    · have hd : decide ((i : Int) < (kids.length : Int)) = true := by simp; omega
      have gx := getX hlt
      have hm := wtL_mem gx
      have hc := i1 i _ gx (by omega)
      obtain ⟨q1, q2, q3, q4, q5, q6, q7, q8, q9, q10, q11, q12, q13, q14, q15, q16, q17, q18, q19, q20, e1⟩ := (r1 i _ gx).form
      obtain ⟨ba, oa, rfl, hla⟩ := (h1 i _ gx).ldn
      rw [e1] at hc hla
      unfold xcells
      simp (disch := first | assumption | exact Ne.symm (by assumption) | omega) only [hF1, hd, ↓ZD, ZU, ZR, Za, Zb, Zc, Zd, Ze, Zf, Zg, Zh, Zi, Zj, Zk, Zl, Zm, Zn, Zo, Zp, Zq, Zr, reduceIte, reduceCtorEq, Zs, Zt, Zu, Zv]
      refine conj.of (by omega) ?_
      simp (disch := first | assumption | exact Ne.symm (by assumption) | omega) only [hF1, hd, Int.toNat_natCast, ↓hla, ↓ZD, ZU, ZR, Za, Zb, Zc, Zd, Ze, Zf, Zg, Zh, Zi, Zj, Zk, Zl, Zm, Zn, Zo, Zp, Zq, Zr, reduceIte, reduceCtorEq, Zs, Zt, Zu, Zv]
      refine CallE.pure hc ?_
      simp (disch := first | assumption | exact Ne.symm (by assumption) | omega) only [hF1, ↓ZD, ZU, ZR, Za, Zb, Zc, Zd, Ze, Zf, Zg, Zh, Zi, Zj, Zk, Zl, Zm, Zn, Zo, Zp, Zq, Zr, reduceIte, reduceCtorEq, Zs, Zt, Zu, Zv]
      refine ⟨fun hx => ?_, fun hx => ?_⟩
      · have : kids.all okX = false := by
          rw [List.all_eq_false]; exact ⟨_, List.mem_of_getElem? gx, by simpa using hx⟩
        rw [this]; rfl
      · have hok : okX (kids.getD i nilX) = true := by simpa using hx
        rw [rtx_ok hok]
        refine NewB.of fun b3 hb3 hF3 => ?_
        simp only [List.forall_mem_cons] at hb3
        simp (disch := first | assumption | exact Ne.symm (by assumption) | omega) only [hF1, hF3, ↓ZD, ZU, ZR, Za, Zb, Zc, Zd, Ze, Zf, Zg, Zh, Zi, Zj, Zk, Zl, Zm, Zn, Zo, Zp, Zq, Zr, reduceIte, reduceCtorEq, Zs, Zt, Zu, Zv]
        have hsn : cellsS (ptL (kids.take (i + 1))) = cellsS (ptL (kids.take i)) ++ [.string (bs (pt (kids.getD i nilX)))] := by
          rw [ptL_snoc gx]; simp [cellsS]
        refine EfL.grow (Hr := [(b1, .cells (xcells op v u1 u2 nm (.slice (some ⟨ba, oa, none⟩) kids.length c1) (.slice an names.length cn)).toArray 30 (0, 0))]) (m := 1) (nw := [.string (bs (pt (kids.getD i nilX)))]) ho (ho.lk [_, _] (by simp only [List.forall_mem_cons, List.not_mem_nil, false_implies, implies_true, and_true]; exact ⟨hb3.2, hob⟩)) (by simp [xcells]) (by simp only [List.forall_mem_cons, List.not_mem_nil, false_implies, implies_true, and_true]; exact hob) ?_ rfl (by simp [oneCell]) (by simp) (by omega) ?_
        · simp (disch := first | assumption | exact Ne.symm (by assumption) | omega) only [hF3, ↓ZD, ZU, ZR, Za, Zb, Zc, Zd, Ze, Zf, Zg, Zh, Zi, Zj, Zk, Zl, Zm, Zn, Zo, Zp, Zq, Zr, reduceIte, reduceCtorEq, Zs, Zt, Zu, Zv]
        intro b4 cap4 sp4 hs4 hc4 hm4 hF4 hne4
        simp only [List.forall_mem_cons] at hne4
        simp (disch := first | assumption | exact Ne.symm (by assumption) | omega) only [↓ZD, ZU, ZR, Za, Zb, Zc, Zd, Ze, Zf, Zg, Zh, Zi, Zj, Zk, Zl, Zm, Zn, Zo, Zp, Zq, Zr, reduceIte, reduceCtorEq, Zs, Zt, Zu, Zv]
        refine invK.on (i + 1, .slice (some ⟨b4, 0, none⟩) (i + 1) cap4, [(b4, .cells (cellsS (ptL (kids.take i)) ++ ([.string (bs (pt (kids.getD i nilX)))] : List Value) ++ sp4).toArray 9 (0, 0))]) ⟨by show i + 1 ≤ _; omega, by rw [take_snoc gx, List.all_append, ha]; simpa using hok, OwnS.mk sp4 hF4 (by rw [hsn]) rfl (by simp only [cellsS, List.length_map, ptL_len, List.length_take]; omega) (by simpa using hs4) (by show i + 1 ≤ _; omega) hm4, by simpa using fun e => hne4.1 e.symm⟩ (by show _ - (i + 1) < _ - i; omega) ?_ ?_
        · simp only [Le_nil, Le_cons]
          simp (disch := first | assumption | exact Ne.symm (by assumption) | omega) only [↓ZD, ZU, ZR, Za, Zb, Zc, Zd, Ze, Zf, Zg, Zh, Zi, Zj, Zk, Zl, Zm, Zn, Zo, Zp, Zq, Zr, reduceIte, reduceCtorEq, Zs, Zt, Zu, Zv]
          first | done | rfl
        · exact ⟨by simp only [xcells]; simp (disch := first | assumption | exact Ne.symm (by assumption) | omega) only [↓ZD, ZU, ZR, Za, Zb, Zc, Zd, Ze, Zf, Zg, Zh, Zi, Zj, Zk, Zl, Zm, Zn, Zo, Zp, Zq, Zr, reduceIte, reduceCtorEq, Zs, Zt, Zu, Zv], by simp (disch := first | assumption | exact Ne.symm (by assumption) | omega) only [↓ZD, ZU, ZR, Za, Zb, Zc, Zd, Ze, Zf, Zg, Zh, Zi, Zj, Zk, Zl, Zm, Zn, Zo, Zp, Zq, Zr, reduceIte, reduceCtorEq, Zs, Zt, Zu, Zv], trivial⟩
    · have hd : decide ((i : Int) < (kids.length : Int)) = false := by simp; omega
      obtain rfl : i = kids.length := by omega
      rw [List.take_length] at ha ho
      rw [ha]
      obtain ⟨hr1, hr2, hr3, hr4⟩ := arOk_of hx'
      unfold xcells
      unfold cellsS at ho
      rcases ops_of op with ho1 | rfl | rfl | rfl | rfl | rfl | rfl | rfl | rfl | rfl | rfl | rfl | rfl | rfl | rfl | rfl | rfl | rfl | rfl | rfl | rfl | rfl | rfl | rfl | ho1
      · omega
      · obtain rfl : kids = [] := by
          have := hr3 (by decide)
          rw [show kidsI 1 = 0 by decide] at this
          cases kids with
          | nil => rfl
          | cons _ _ => simp at this; omega
        simp (disch := first | assumption | exact Ne.symm (by assumption) | omega) only [hF1, hF1, Int.reduceBEq, Int.reduceNeg, ↓ZD, ZU, ZR, Za, Zb, Zc, Zd, Ze, Zf, Zg, Zh, Zi, Zj, Zk, Zl, Zm, Zn, Zo, Zp, Zq, Zr, reduceIte, reduceCtorEq, Zs, Zt, Zu, Zv]
        refine CallE.pure (rlit_pure F v u1 u2 (by unfold Sm; omega) (by unfold Sm; omega) (by unfold Sm; omega) hn) ?_
        simp (disch := first | assumption | exact Ne.symm (by assumption) | omega) only [hF1, ↓ZD, ZU, ZR, Za, Zb, Zc, Zd, Ze, Zf, Zg, Zh, Zi, Zj, Zk, Zl, Zm, Zn, Zo, Zp, Zq, Zr, reduceIte, reduceCtorEq, Zs, Zt, Zu, Zv]
        simp [nodeT, nodeOk, isTwo, signT, methT, own1, ptL, litOk]
      · obtain rfl : kids = [] := by
          have := hr3 (by decide)
          rw [show kidsI 2 = 0 by decide] at this
          cases kids with
          | nil => rfl
          | cons _ _ => simp at this; omega
        simp (disch := first | assumption | exact Ne.symm (by assumption) | omega) only [hF1, hF1, Int.reduceBEq, Int.reduceNeg, ↓ZD, ZU, ZR, Za, Zb, Zc, Zd, Ze, Zf, Zg, Zh, Zi, Zj, Zk, Zl, Zm, Zn, Zo, Zp, Zq, Zr, reduceIte, reduceCtorEq, Zs, Zt, Zu, Zv]
        simp only [nodeT, nodeOk, varL, reduceCtorEq, List.mem_cons, List.not_mem_nil, or_false, if_false, if_true, show ((2 : Int) = 1) = False by simp, Bool.decide_or, beq_dec, Bool.or_assoc]
      · obtain rfl : kids = [] := by
          have := hr3 (by decide)
          rw [show kidsI 3 = 0 by decide] at this
          cases kids with
          | nil => rfl
          | cons _ _ => simp at this; omega
        simp (disch := first | assumption | exact Ne.symm (by assumption) | omega) only [hF1, hF1, Int.reduceBEq, Int.reduceNeg, ↓ZD, ZU, ZR, Za, Zb, Zc, Zd, Ze, Zf, Zg, Zh, Zi, Zj, Zk, Zl, Zm, Zn, Zo, Zp, Zq, Zr, reduceIte, reduceCtorEq, Zs, Zt, Zu, Zv]
        repeat (refine conj.of (by first | omega | decide) ?_; simp (disch := first | assumption | exact Ne.symm (by assumption) | omega) only [hF1, hF1, Int.reduceBEq, Int.reduceNeg, ↓ZD, ZU, ZR, Za, Zb, Zc, Zd, Ze, Zf, Zg, Zh, Zi, Zj, Zk, Zl, Zm, Zn, Zo, Zp, Zq, Zr, reduceIte, reduceCtorEq, Zs, Zt, Zu, Zv])
        simp only [nodeT, nodeOk, slotL, reduceCtorEq, List.mem_cons, List.not_mem_nil, or_false, if_false, if_true, show ((3 : Int) = 1) = False by simp, show ((3 : Int) = 2) = False by simp, Bool.decide_or, beq_dec, Bool.or_assoc, List.cons_append, List.nil_append]
      · obtain ⟨x, y, rfl⟩ : ∃ x y, kids = [x, y] := by
          have := hr3 (by decide)
          rw [show kidsI 4 = 2 by decide] at this
          match kids, this with | [x, y], _ => exact ⟨x, y, rfl⟩
        have lx := pt_len (r1 0 x (by simp))
        have ly := pt_len (r1 1 y (by simp))
        simp only [wtL] at hw
        simp only [ptL, List.map_cons, List.map_nil, List.length_cons, List.length_nil] at ho
        rcases ho.out with ⟨h0, -⟩ | ⟨b5, cap5, sp5, rfl, rfl, hF5, -, hs5, hc5, hm5⟩
        · cases h0
        have hb5 : b5 ≠ b1 := by simpa using hob
        simp (disch := first | assumption | exact Ne.symm (by assumption) | omega) only [hF1, hF5, hb5, Int.reduceBEq, Int.reduceNeg, ↓ZD, ZU, ZR, Za, Zb, Zc, Zd, Ze, Zf, Zg, Zh, Zi, Zj, Zk, Zl, Zm, Zn, Zo, Zp, Zq, Zr, reduceIte, reduceCtorEq, Zs, Zt, Zu, Zv]
        refine NewB.of fun b7 hb7 hF7 => ?_
        simp only [List.forall_mem_cons, List.not_mem_nil, false_implies, implies_true, and_true] at hb7
        obtain ⟨hb71, hb75⟩ := hb7
        simp (disch := first | assumption | exact Ne.symm (by assumption) | omega) only [hF1, hF5, hF7, hb5, Int.reduceBEq, Int.reduceNeg, ↓ZD, ZU, ZR, Za, Zb, Zc, Zd, Ze, Zf, Zg, Zh, Zi, Zj, Zk, Zl, Zm, Zn, Zo, Zp, Zq, Zr, reduceIte, reduceCtorEq, Zs, Zt, Zu, Zv]
        repeat (refine conj.of (by first | omega | decide) ?_; simp (disch := first | assumption | exact Ne.symm (by assumption) | omega) only [hF1, hF5, hF7, hb5, Int.reduceBEq, Int.reduceNeg, ↓ZD, ZU, ZR, Za, Zb, Zc, Zd, Ze, Zf, Zg, Zh, Zi, Zj, Zk, Zl, Zm, Zn, Zo, Zp, Zq, Zr, reduceIte, reduceCtorEq, Zs, Zt, Zu, Zv])
        simp [nodeT, nodeOk, isTwo, signT, methT, own1, ptL, litOk]
      · obtain ⟨x, y, rfl⟩ : ∃ x y, kids = [x, y] := by
          have := hr3 (by decide)
          rw [show kidsI 5 = 2 by decide] at this
          match kids, this with | [x, y], _ => exact ⟨x, y, rfl⟩
        have lx := pt_len (r1 0 x (by simp))
        have ly := pt_len (r1 1 y (by simp))
        simp only [wtL] at hw
        simp only [ptL, List.map_cons, List.map_nil, List.length_cons, List.length_nil] at ho
        rcases ho.out with ⟨h0, -⟩ | ⟨b5, cap5, sp5, rfl, rfl, hF5, -, hs5, hc5, hm5⟩
        · cases h0
        have hb5 : b5 ≠ b1 := by simpa using hob
        simp (disch := first | assumption | exact Ne.symm (by assumption) | omega) only [hF1, hF5, hb5, Int.reduceBEq, Int.reduceNeg, ↓ZD, ZU, ZR, Za, Zb, Zc, Zd, Ze, Zf, Zg, Zh, Zi, Zj, Zk, Zl, Zm, Zn, Zo, Zp, Zq, Zr, reduceIte, reduceCtorEq, Zs, Zt, Zu, Zv]
        refine NewB.of fun b7 hb7 hF7 => ?_
        simp only [List.forall_mem_cons, List.not_mem_nil, false_implies, implies_true, and_true] at hb7
        obtain ⟨hb71, hb75⟩ := hb7
        simp (disch := first | assumption | exact Ne.symm (by assumption) | omega) only [hF1, hF5, hF7, hb5, Int.reduceBEq, Int.reduceNeg, ↓ZD, ZU, ZR, Za, Zb, Zc, Zd, Ze, Zf, Zg, Zh, Zi, Zj, Zk, Zl, Zm, Zn, Zo, Zp, Zq, Zr, reduceIte, reduceCtorEq, Zs, Zt, Zu, Zv]
        repeat (refine conj.of (by first | omega | decide) ?_; simp (disch := first | assumption | exact Ne.symm (by assumption) | omega) only [hF1, hF5, hF7, hb5, Int.reduceBEq, Int.reduceNeg, ↓ZD, ZU, ZR, Za, Zb, Zc, Zd, Ze, Zf, Zg, Zh, Zi, Zj, Zk, Zl, Zm, Zn, Zo, Zp, Zq, Zr, reduceIte, reduceCtorEq, Zs, Zt, Zu, Zv])
        simp [nodeT, nodeOk, isTwo, signT, methT, own1, ptL, litOk]
      · obtain ⟨x, rfl⟩ : ∃ x, kids = [x] := by
          have := hr3 (by decide)
          rw [show kidsI 6 = 1 by decide] at this
          match kids, this with | [x], _ => exact ⟨x, rfl⟩
        have lx := pt_len (r1 0 x (by simp))
        simp only [wtL] at hw
        simp only [ptL, List.map_cons, List.map_nil, List.length_cons, List.length_nil] at ho
        rcases ho.out with ⟨h0, -⟩ | ⟨b5, cap5, sp5, rfl, rfl, hF5, -, hs5, hc5, hm5⟩
        · cases h0
        have hb5 : b5 ≠ b1 := by simpa using hob
        simp (disch := first | assumption | exact Ne.symm (by assumption) | omega) only [hF1, hF5, hb5, Int.reduceBEq, Int.reduceNeg, ↓ZD, ZU, ZR, Za, Zb, Zc, Zd, Ze, Zf, Zg, Zh, Zi, Zj, Zk, Zl, Zm, Zn, Zo, Zp, Zq, Zr, reduceIte, reduceCtorEq, Zs, Zt, Zu, Zv]
        repeat (refine conj.of (by first | omega | decide) ?_; simp (disch := first | assumption | exact Ne.symm (by assumption) | omega) only [hF1, hF5, hb5, Int.reduceBEq, Int.reduceNeg, ↓ZD, ZU, ZR, Za, Zb, Zc, Zd, Ze, Zf, Zg, Zh, Zi, Zj, Zk, Zl, Zm, Zn, Zo, Zp, Zq, Zr, reduceIte, reduceCtorEq, Zs, Zt, Zu, Zv])
        simp [nodeT, nodeOk, isTwo, signT, methT, own1, ptL, litOk]
      · obtain ⟨x, y, z, rfl⟩ : ∃ x y z, kids = [x, y, z] := by
          have := hr3 (by decide)
          rw [show kidsI 7 = 3 by decide] at this
          match kids, this with | [x, y, z], _ => exact ⟨x, y, z, rfl⟩
        have lx := pt_len (r1 0 x (by simp))
        have ly := pt_len (r1 1 y (by simp))
        have lz := pt_len (r1 2 z (by simp))
        simp only [wtL] at hw
        simp only [ptL, List.map_cons, List.map_nil, List.length_cons, List.length_nil] at ho
        rcases ho.out with ⟨h0, -⟩ | ⟨b5, cap5, sp5, rfl, rfl, hF5, -, hs5, hc5, hm5⟩
        · cases h0
        have hb5 : b5 ≠ b1 := by simpa using hob
        simp (disch := first | assumption | exact Ne.symm (by assumption) | omega) only [hF1, hF5, hb5, Int.reduceBEq, Int.reduceNeg, ↓ZD, ZU, ZR, Za, Zb, Zc, Zd, Ze, Zf, Zg, Zh, Zi, Zj, Zk, Zl, Zm, Zn, Zo, Zp, Zq, Zr, reduceIte, reduceCtorEq, Zs, Zt, Zu, Zv]
        repeat (refine conj.of (by first | omega | decide) ?_; simp (disch := first | assumption | exact Ne.symm (by assumption) | omega) only [hF1, hF5, hb5, Int.reduceBEq, Int.reduceNeg, ↓ZD, ZU, ZR, Za, Zb, Zc, Zd, Ze, Zf, Zg, Zh, Zi, Zj, Zk, Zl, Zm, Zn, Zo, Zp, Zq, Zr, reduceIte, reduceCtorEq, Zs, Zt, Zu, Zv])
        simp [nodeT, nodeOk, isTwo, signT, methT, own1, ptL, litOk]
      · obtain ⟨x, y, rfl⟩ : ∃ x y, kids = [x, y] := by
          have := hr3 (by decide)
          rw [show kidsI 8 = 2 by decide] at this
          match kids, this with | [x, y], _ => exact ⟨x, y, rfl⟩
        have lx := pt_len (r1 0 x (by simp))
        have ly := pt_len (r1 1 y (by simp))
        simp only [wtL] at hw
        simp only [ptL, List.map_cons, List.map_nil, List.length_cons, List.length_nil] at ho
        rcases ho.out with ⟨h0, -⟩ | ⟨b5, cap5, sp5, rfl, rfl, hF5, -, hs5, hc5, hm5⟩
        · cases h0
        have hb5 : b5 ≠ b1 := by simpa using hob
        simp (disch := first | assumption | exact Ne.symm (by assumption) | omega) only [hF1, hF5, hb5, Int.reduceBEq, Int.reduceNeg, ↓ZD, ZU, ZR, Za, Zb, Zc, Zd, Ze, Zf, Zg, Zh, Zi, Zj, Zk, Zl, Zm, Zn, Zo, Zp, Zq, Zr, reduceIte, reduceCtorEq, Zs, Zt, Zu, Zv]
        refine NewB.of fun b7 hb7 hF7 => ?_
        simp only [List.forall_mem_cons, List.not_mem_nil, false_implies, implies_true, and_true] at hb7
        obtain ⟨hb71, hb75⟩ := hb7
        simp (disch := first | assumption | exact Ne.symm (by assumption) | omega) only [hF1, hF5, hF7, hb5, Int.reduceBEq, Int.reduceNeg, ↓ZD, ZU, ZR, Za, Zb, Zc, Zd, Ze, Zf, Zg, Zh, Zi, Zj, Zk, Zl, Zm, Zn, Zo, Zp, Zq, Zr, reduceIte, reduceCtorEq, Zs, Zt, Zu, Zv]
        repeat (refine conj.of (by first | omega | decide) ?_; simp (disch := first | assumption | exact Ne.symm (by assumption) | omega) only [hF1, hF5, hF7, hb5, Int.reduceBEq, Int.reduceNeg, ↓ZD, ZU, ZR, Za, Zb, Zc, Zd, Ze, Zf, Zg, Zh, Zi, Zj, Zk, Zl, Zm, Zn, Zo, Zp, Zq, Zr, reduceIte, reduceCtorEq, Zs, Zt, Zu, Zv])
        simp [nodeT, nodeOk, isTwo, signT, methT, own1, ptL, litOk]
      · obtain ⟨x, y, rfl⟩ : ∃ x y, kids = [x, y] := by
          have := hr3 (by decide)
          rw [show kidsI 9 = 2 by decide] at this
          match kids, this with | [x, y], _ => exact ⟨x, y, rfl⟩
        have lx := pt_len (r1 0 x (by simp))
        have ly := pt_len (r1 1 y (by simp))
        simp only [wtL] at hw
        simp only [ptL, List.map_cons, List.map_nil, List.length_cons, List.length_nil] at ho
        rcases ho.out with ⟨h0, -⟩ | ⟨b5, cap5, sp5, rfl, rfl, hF5, -, hs5, hc5, hm5⟩
        · cases h0
        have hb5 : b5 ≠ b1 := by simpa using hob
        simp (disch := first | assumption | exact Ne.symm (by assumption) | omega) only [hF1, hF5, hb5, Int.reduceBEq, Int.reduceNeg, ↓ZD, ZU, ZR, Za, Zb, Zc, Zd, Ze, Zf, Zg, Zh, Zi, Zj, Zk, Zl, Zm, Zn, Zo, Zp, Zq, Zr, reduceIte, reduceCtorEq, Zs, Zt, Zu, Zv]
        refine NewB.of fun b7 hb7 hF7 => ?_
        simp only [List.forall_mem_cons, List.not_mem_nil, false_implies, implies_true, and_true] at hb7
        obtain ⟨hb71, hb75⟩ := hb7
        simp (disch := first | assumption | exact Ne.symm (by assumption) | omega) only [hF1, hF5, hF7, hb5, Int.reduceBEq, Int.reduceNeg, ↓ZD, ZU, ZR, Za, Zb, Zc, Zd, Ze, Zf, Zg, Zh, Zi, Zj, Zk, Zl, Zm, Zn, Zo, Zp, Zq, Zr, reduceIte, reduceCtorEq, Zs, Zt, Zu, Zv]
        repeat (refine conj.of (by first | omega | decide) ?_; simp (disch := first | assumption | exact Ne.symm (by assumption) | omega) only [hF1, hF5, hF7, hb5, Int.reduceBEq, Int.reduceNeg, ↓ZD, ZU, ZR, Za, Zb, Zc, Zd, Ze, Zf, Zg, Zh, Zi, Zj, Zk, Zl, Zm, Zn, Zo, Zp, Zq, Zr, reduceIte, reduceCtorEq, Zs, Zt, Zu, Zv])
        simp [nodeT, nodeOk, isTwo, signT, methT, own1, ptL, litOk]
      · obtain ⟨x, y, rfl⟩ : ∃ x y, kids = [x, y] := by
          have := hr3 (by decide)
          rw [show kidsI 10 = 2 by decide] at this
          match kids, this with | [x, y], _ => exact ⟨x, y, rfl⟩
        have lx := pt_len (r1 0 x (by simp))
        have ly := pt_len (r1 1 y (by simp))
        simp only [wtL] at hw
        simp only [ptL, List.map_cons, List.map_nil, List.length_cons, List.length_nil] at ho
        rcases ho.out with ⟨h0, -⟩ | ⟨b5, cap5, sp5, rfl, rfl, hF5, -, hs5, hc5, hm5⟩
        · cases h0
        have hb5 : b5 ≠ b1 := by simpa using hob
        simp (disch := first | assumption | exact Ne.symm (by assumption) | omega) only [hF1, hF5, hb5, Int.reduceBEq, Int.reduceNeg, ↓ZD, ZU, ZR, Za, Zb, Zc, Zd, Ze, Zf, Zg, Zh, Zi, Zj, Zk, Zl, Zm, Zn, Zo, Zp, Zq, Zr, reduceIte, reduceCtorEq, Zs, Zt, Zu, Zv]
        refine NewB.of fun b7 hb7 hF7 => ?_
        simp only [List.forall_mem_cons, List.not_mem_nil, false_implies, implies_true, and_true] at hb7
        obtain ⟨hb71, hb75⟩ := hb7
        simp (disch := first | assumption | exact Ne.symm (by assumption) | omega) only [hF1, hF5, hF7, hb5, Int.reduceBEq, Int.reduceNeg, ↓ZD, ZU, ZR, Za, Zb, Zc, Zd, Ze, Zf, Zg, Zh, Zi, Zj, Zk, Zl, Zm, Zn, Zo, Zp, Zq, Zr, reduceIte, reduceCtorEq, Zs, Zt, Zu, Zv]
        repeat (refine conj.of (by first | omega | decide) ?_; simp (disch := first | assumption | exact Ne.symm (by assumption) | omega) only [hF1, hF5, hF7, hb5, Int.reduceBEq, Int.reduceNeg, ↓ZD, ZU, ZR, Za, Zb, Zc, Zd, Ze, Zf, Zg, Zh, Zi, Zj, Zk, Zl, Zm, Zn, Zo, Zp, Zq, Zr, reduceIte, reduceCtorEq, Zs, Zt, Zu, Zv])
        simp [nodeT, nodeOk, isTwo, signT, methT, own1, ptL, litOk]
      · obtain ⟨x, y, rfl⟩ : ∃ x y, kids = [x, y] := by
          have := hr3 (by decide)
          rw [show kidsI 11 = 2 by decide] at this
          match kids, this with | [x, y], _ => exact ⟨x, y, rfl⟩
        have lx := pt_len (r1 0 x (by simp))
        have ly := pt_len (r1 1 y (by simp))
        simp only [wtL] at hw
        simp only [ptL, List.map_cons, List.map_nil, List.length_cons, List.length_nil] at ho
        rcases ho.out with ⟨h0, -⟩ | ⟨b5, cap5, sp5, rfl, rfl, hF5, -, hs5, hc5, hm5⟩
        · cases h0
        have hb5 : b5 ≠ b1 := by simpa using hob
        simp (disch := first | assumption | exact Ne.symm (by assumption) | omega) only [hF1, hF5, hb5, Int.reduceBEq, Int.reduceNeg, ↓ZD, ZU, ZR, Za, Zb, Zc, Zd, Ze, Zf, Zg, Zh, Zi, Zj, Zk, Zl, Zm, Zn, Zo, Zp, Zq, Zr, reduceIte, reduceCtorEq, Zs, Zt, Zu, Zv]
        refine NewB.of fun b7 hb7 hF7 => ?_
        simp only [List.forall_mem_cons, List.not_mem_nil, false_implies, implies_true, and_true] at hb7
        obtain ⟨hb71, hb75⟩ := hb7
        simp (disch := first | assumption | exact Ne.symm (by assumption) | omega) only [hF1, hF5, hF7, hb5, Int.reduceBEq, Int.reduceNeg, ↓ZD, ZU, ZR, Za, Zb, Zc, Zd, Ze, Zf, Zg, Zh, Zi, Zj, Zk, Zl, Zm, Zn, Zo, Zp, Zq, Zr, reduceIte, reduceCtorEq, Zs, Zt, Zu, Zv]
        repeat (refine conj.of (by first | omega | decide) ?_; simp (disch := first | assumption | exact Ne.symm (by assumption) | omega) only [hF1, hF5, hF7, hb5, Int.reduceBEq, Int.reduceNeg, ↓ZD, ZU, ZR, Za, Zb, Zc, Zd, Ze, Zf, Zg, Zh, Zi, Zj, Zk, Zl, Zm, Zn, Zo, Zp, Zq, Zr, reduceIte, reduceCtorEq, Zs, Zt, Zu, Zv])
        simp [nodeT, nodeOk, isTwo, signT, methT, own1, ptL, litOk]
      · obtain ⟨x, y, rfl⟩ : ∃ x y, kids = [x, y] := by
          have := hr3 (by decide)
          rw [show kidsI 12 = 2 by decide] at this
          match kids, this with | [x, y], _ => exact ⟨x, y, rfl⟩
        have lx := pt_len (r1 0 x (by simp))
        have ly := pt_len (r1 1 y (by simp))
        simp only [wtL] at hw
        simp only [ptL, List.map_cons, List.map_nil, List.length_cons, List.length_nil] at ho
        rcases ho.out with ⟨h0, -⟩ | ⟨b5, cap5, sp5, rfl, rfl, hF5, -, hs5, hc5, hm5⟩
        · cases h0
        have hb5 : b5 ≠ b1 := by simpa using hob
        simp (disch := first | assumption | exact Ne.symm (by assumption) | omega) only [hF1, hF5, hb5, Int.reduceBEq, Int.reduceNeg, ↓ZD, ZU, ZR, Za, Zb, Zc, Zd, Ze, Zf, Zg, Zh, Zi, Zj, Zk, Zl, Zm, Zn, Zo, Zp, Zq, Zr, reduceIte, reduceCtorEq, Zs, Zt, Zu, Zv]
        refine NewB.of fun b7 hb7 hF7 => ?_
        simp only [List.forall_mem_cons, List.not_mem_nil, false_implies, implies_true, and_true] at hb7
        obtain ⟨hb71, hb75⟩ := hb7
        simp (disch := first | assumption | exact Ne.symm (by assumption) | omega) only [hF1, hF5, hF7, hb5, Int.reduceBEq, Int.reduceNeg, ↓ZD, ZU, ZR, Za, Zb, Zc, Zd, Ze, Zf, Zg, Zh, Zi, Zj, Zk, Zl, Zm, Zn, Zo, Zp, Zq, Zr, reduceIte, reduceCtorEq, Zs, Zt, Zu, Zv]
        repeat (refine conj.of (by first | omega | decide) ?_; simp (disch := first | assumption | exact Ne.symm (by assumption) | omega) only [hF1, hF5, hF7, hb5, Int.reduceBEq, Int.reduceNeg, ↓ZD, ZU, ZR, Za, Zb, Zc, Zd, Ze, Zf, Zg, Zh, Zi, Zj, Zk, Zl, Zm, Zn, Zo, Zp, Zq, Zr, reduceIte, reduceCtorEq, Zs, Zt, Zu, Zv])
        simp [nodeT, nodeOk, isTwo, signT, methT, own1, ptL, litOk]
      · obtain ⟨x, y, rfl⟩ : ∃ x y, kids = [x, y] := by
          have := hr3 (by decide)
          rw [show kidsI 13 = 2 by decide] at this
          match kids, this with | [x, y], _ => exact ⟨x, y, rfl⟩
        have lx := pt_len (r1 0 x (by simp))
        have ly := pt_len (r1 1 y (by simp))
        simp only [wtL] at hw
        simp only [ptL, List.map_cons, List.map_nil, List.length_cons, List.length_nil] at ho
        rcases ho.out with ⟨h0, -⟩ | ⟨b5, cap5, sp5, rfl, rfl, hF5, -, hs5, hc5, hm5⟩
        · cases h0
        have hb5 : b5 ≠ b1 := by simpa using hob
        simp (disch := first | assumption | exact Ne.symm (by assumption) | omega) only [hF1, hF5, hb5, Int.reduceBEq, Int.reduceNeg, ↓ZD, ZU, ZR, Za, Zb, Zc, Zd, Ze, Zf, Zg, Zh, Zi, Zj, Zk, Zl, Zm, Zn, Zo, Zp, Zq, Zr, reduceIte, reduceCtorEq, Zs, Zt, Zu, Zv]
        refine NewB.of fun b7 hb7 hF7 => ?_
        simp only [List.forall_mem_cons, List.not_mem_nil, false_implies, implies_true, and_true] at hb7
        obtain ⟨hb71, hb75⟩ := hb7
        simp (disch := first | assumption | exact Ne.symm (by assumption) | omega) only [hF1, hF5, hF7, hb5, Int.reduceBEq, Int.reduceNeg, ↓ZD, ZU, ZR, Za, Zb, Zc, Zd, Ze, Zf, Zg, Zh, Zi, Zj, Zk, Zl, Zm, Zn, Zo, Zp, Zq, Zr, reduceIte, reduceCtorEq, Zs, Zt, Zu, Zv]
        repeat (refine conj.of (by first | omega | decide) ?_; simp (disch := first | assumption | exact Ne.symm (by assumption) | omega) only [hF1, hF5, hF7, hb5, Int.reduceBEq, Int.reduceNeg, ↓ZD, ZU, ZR, Za, Zb, Zc, Zd, Ze, Zf, Zg, Zh, Zi, Zj, Zk, Zl, Zm, Zn, Zo, Zp, Zq, Zr, reduceIte, reduceCtorEq, Zs, Zt, Zu, Zv])
        simp [nodeT, nodeOk, isTwo, signT, methT, own1, ptL, litOk]
      · obtain ⟨x, rfl⟩ : ∃ x, kids = [x] := by
          have := hr3 (by decide)
          rw [show kidsI 14 = 1 by decide] at this
          match kids, this with | [x], _ => exact ⟨x, rfl⟩
        have lx := pt_len (r1 0 x (by simp))
        simp only [wtL] at hw
        simp only [ptL, List.map_cons, List.map_nil, List.length_cons, List.length_nil] at ho
        rcases ho.out with ⟨h0, -⟩ | ⟨b5, cap5, sp5, rfl, rfl, hF5, -, hs5, hc5, hm5⟩
        · cases h0
        have hb5 : b5 ≠ b1 := by simpa using hob
        simp (disch := first | assumption | exact Ne.symm (by assumption) | omega) only [hF1, hF5, hb5, Int.reduceBEq, Int.reduceNeg, ↓ZD, ZU, ZR, Za, Zb, Zc, Zd, Ze, Zf, Zg, Zh, Zi, Zj, Zk, Zl, Zm, Zn, Zo, Zp, Zq, Zr, reduceIte, reduceCtorEq, Zs, Zt, Zu, Zv]
        repeat (refine conj.of (by first | omega | decide) ?_; simp (disch := first | assumption | exact Ne.symm (by assumption) | omega) only [hF1, hF5, hb5, Int.reduceBEq, Int.reduceNeg, ↓ZD, ZU, ZR, Za, Zb, Zc, Zd, Ze, Zf, Zg, Zh, Zi, Zj, Zk, Zl, Zm, Zn, Zo, Zp, Zq, Zr, reduceIte, reduceCtorEq, Zs, Zt, Zu, Zv])
        simp [nodeT, nodeOk, isTwo, signT, methT, own1, ptL, litOk]
      · obtain ⟨x, y, rfl⟩ : ∃ x y, kids = [x, y] := by
          have := hr3 (by decide)
          rw [show kidsI 15 = 2 by decide] at this
          match kids, this with | [x, y], _ => exact ⟨x, y, rfl⟩
        have lx := pt_len (r1 0 x (by simp))
        have ly := pt_len (r1 1 y (by simp))
        simp only [wtL] at hw
        simp only [ptL, List.map_cons, List.map_nil, List.length_cons, List.length_nil] at ho
        rcases ho.out with ⟨h0, -⟩ | ⟨b5, cap5, sp5, rfl, rfl, hF5, -, hs5, hc5, hm5⟩
        · cases h0
        have hb5 : b5 ≠ b1 := by simpa using hob
        simp (disch := first | assumption | exact Ne.symm (by assumption) | omega) only [hF1, hF5, hb5, Int.reduceBEq, Int.reduceNeg, ↓ZD, ZU, ZR, Za, Zb, Zc, Zd, Ze, Zf, Zg, Zh, Zi, Zj, Zk, Zl, Zm, Zn, Zo, Zp, Zq, Zr, reduceIte, reduceCtorEq, Zs, Zt, Zu, Zv]
        refine NewB.of fun b7 hb7 hF7 => ?_
        simp only [List.forall_mem_cons, List.not_mem_nil, false_implies, implies_true, and_true] at hb7
        obtain ⟨hb71, hb75⟩ := hb7
        simp (disch := first | assumption | exact Ne.symm (by assumption) | omega) only [hF1, hF5, hF7, hb5, Int.reduceBEq, Int.reduceNeg, ↓ZD, ZU, ZR, Za, Zb, Zc, Zd, Ze, Zf, Zg, Zh, Zi, Zj, Zk, Zl, Zm, Zn, Zo, Zp, Zq, Zr, reduceIte, reduceCtorEq, Zs, Zt, Zu, Zv]
        repeat (refine conj.of (by first | omega | decide) ?_; simp (disch := first | assumption | exact Ne.symm (by assumption) | omega) only [hF1, hF5, hF7, hb5, Int.reduceBEq, Int.reduceNeg, ↓ZD, ZU, ZR, Za, Zb, Zc, Zd, Ze, Zf, Zg, Zh, Zi, Zj, Zk, Zl, Zm, Zn, Zo, Zp, Zq, Zr, reduceIte, reduceCtorEq, Zs, Zt, Zu, Zv])
        simp [nodeT, nodeOk, isTwo, signT, methT, own1, ptL, litOk]
      · obtain ⟨x, rfl⟩ : ∃ x, kids = [x] := by
          have := hr3 (by decide)
          rw [show kidsI 16 = 1 by decide] at this
          match kids, this with | [x], _ => exact ⟨x, rfl⟩
        have lx := pt_len (r1 0 x (by simp))
        simp only [wtL] at hw
        simp only [ptL, List.map_cons, List.map_nil, List.length_cons, List.length_nil] at ho
        rcases ho.out with ⟨h0, -⟩ | ⟨b5, cap5, sp5, rfl, rfl, hF5, -, hs5, hc5, hm5⟩
        · cases h0
        have hb5 : b5 ≠ b1 := by simpa using hob
        simp (disch := first | assumption | exact Ne.symm (by assumption) | omega) only [hF1, hF5, hb5, Int.reduceBEq, Int.reduceNeg, ↓ZD, ZU, ZR, Za, Zb, Zc, Zd, Ze, Zf, Zg, Zh, Zi, Zj, Zk, Zl, Zm, Zn, Zo, Zp, Zq, Zr, reduceIte, reduceCtorEq, Zs, Zt, Zu, Zv]
        repeat (refine conj.of (by first | omega | decide) ?_; simp (disch := first | assumption | exact Ne.symm (by assumption) | omega) only [hF1, hF5, hb5, Int.reduceBEq, Int.reduceNeg, ↓ZD, ZU, ZR, Za, Zb, Zc, Zd, Ze, Zf, Zg, Zh, Zi, Zj, Zk, Zl, Zm, Zn, Zo, Zp, Zq, Zr, reduceIte, reduceCtorEq, Zs, Zt, Zu, Zv])
        refine CallQ.of _ (rpath10_pure F nm (by unfold Sm; omega)).up ?_
        simp (disch := first | assumption | exact Ne.symm (by assumption) | omega) only [hF1, ↓ZD, ZU, ZR, Za, Zb, Zc, Zd, Ze, Zf, Zg, Zh, Zi, Zj, Zk, Zl, Zm, Zn, Zo, Zp, Zq, Zr, reduceIte, reduceCtorEq, Zs, Zt, Zu, Zv]
        simp [nodeT, nodeOk, isTwo, signT, methT, own1, ptL, litOk]
      · obtain ⟨x, rfl⟩ : ∃ x, kids = [x] := by
          have := hr3 (by decide)
          rw [show kidsI 17 = 1 by decide] at this
          match kids, this with | [x], _ => exact ⟨x, rfl⟩
        have lx := pt_len (r1 0 x (by simp))
        simp only [wtL] at hw
        simp only [ptL, List.map_cons, List.map_nil, List.length_cons, List.length_nil] at ho
        rcases ho.out with ⟨h0, -⟩ | ⟨b5, cap5, sp5, rfl, rfl, hF5, -, hs5, hc5, hm5⟩
        · cases h0
        have hb5 : b5 ≠ b1 := by simpa using hob
        simp (disch := first | assumption | exact Ne.symm (by assumption) | omega) only [hF1, hF5, hb5, Int.reduceBEq, Int.reduceNeg, ↓ZD, ZU, ZR, Za, Zb, Zc, Zd, Ze, Zf, Zg, Zh, Zi, Zj, Zk, Zl, Zm, Zn, Zo, Zp, Zq, Zr, reduceIte, reduceCtorEq, Zs, Zt, Zu, Zv]
        repeat (refine conj.of (by first | omega | decide) ?_; simp (disch := first | assumption | exact Ne.symm (by assumption) | omega) only [hF1, hF5, hb5, Int.reduceBEq, Int.reduceNeg, ↓ZD, ZU, ZR, Za, Zb, Zc, Zd, Ze, Zf, Zg, Zh, Zi, Zj, Zk, Zl, Zm, Zn, Zo, Zp, Zq, Zr, reduceIte, reduceCtorEq, Zs, Zt, Zu, Zv])
        refine CallQ.of _ (rname_pure F nm (by omega)).up ?_
        simp (disch := first | assumption | exact Ne.symm (by assumption) | omega) only [hF1, ↓ZD, ZU, ZR, Za, Zb, Zc, Zd, Ze, Zf, Zg, Zh, Zi, Zj, Zk, Zl, Zm, Zn, Zo, Zp, Zq, Zr, reduceIte, reduceCtorEq, Zs, Zt, Zu, Zv]
        simp [nodeT, nodeOk, isTwo, signT, methT, own1, ptL, litOk]
      · obtain ⟨x, rfl⟩ : ∃ x, kids = [x] := by
          have := hr3 (by decide)
          rw [show kidsI 18 = 1 by decide] at this
          match kids, this with | [x], _ => exact ⟨x, rfl⟩
        have lx := pt_len (r1 0 x (by simp))
        simp only [wtL] at hw
        simp only [ptL, List.map_cons, List.map_nil, List.length_cons, List.length_nil] at ho
        rcases ho.out with ⟨h0, -⟩ | ⟨b5, cap5, sp5, rfl, rfl, hF5, -, hs5, hc5, hm5⟩
        · cases h0
        have hb5 : b5 ≠ b1 := by simpa using hob
        have q0 := (h1 0 x (by simp)).all
        obtain ⟨r, hr⟩ := (r1 0 x (by simp)).hd
        rw [hr] at q0
        obtain ⟨ba, oa, rfl, -, hla⟩ := q0
        have k1 := hla 0 (by omega)
        simp only [List.getD_cons_zero, Nat.zero_mul, Nat.add_zero] at k1
        by_cases h6 : x.op = 6 ∨ x.op = 14
        · have e6 : (x.op == 6 || x.op == 14) = true := by simpa using h6
          simp (disch := first | assumption | exact Ne.symm (by assumption) | omega) only [hF1, hF5, hb5, e6, ↓k1, Int.reduceBEq, Int.reduceNeg, ↓ZD, ZU, ZR, Za, Zb, Zc, Zd, Ze, Zf, Zg, Zh, Zi, Zj, Zk, Zl, Zm, Zn, Zo, Zp, Zq, Zr, reduceIte, reduceCtorEq, Zs, Zt, Zu, Zv]
          repeat (refine conj.of (by first | omega | decide) ?_; simp (disch := first | assumption | exact Ne.symm (by assumption) | omega) only [hF1, hF5, hb5, e6, ↓k1, Int.reduceBEq, Int.reduceNeg, ↓ZD, ZU, ZR, Za, Zb, Zc, Zd, Ze, Zf, Zg, Zh, Zi, Zj, Zk, Zl, Zm, Zn, Zo, Zp, Zq, Zr, reduceIte, reduceCtorEq, Zs, Zt, Zu, Zv])
          refine CallE.pure (rname_pure F nm (by omega)) ?_
          simp (disch := first | assumption | exact Ne.symm (by assumption) | omega) only [hF1, hF5, hb5, ↓ZD, ZU, ZR, Za, Zb, Zc, Zd, Ze, Zf, Zg, Zh, Zi, Zj, Zk, Zl, Zm, Zn, Zo, Zp, Zq, Zr, reduceIte, reduceCtorEq, Zs, Zt, Zu, Zv]
          refine ⟨fun hnb => ?_, fun hnb => ?_⟩
          · repeat (refine conj.of (by first | omega | decide) ?_; simp (disch := first | assumption | exact Ne.symm (by assumption) | omega) only [hF1, hF5, hb5, Int.reduceBEq, Int.reduceNeg, ↓ZD, ZU, ZR, Za, Zb, Zc, Zd, Ze, Zf, Zg, Zh, Zi, Zj, Zk, Zl, Zm, Zn, Zo, Zp, Zq, Zr, reduceIte, reduceCtorEq, Zs, Zt, Zu, Zv])
            simp [nodeT, nodeOk, isTwo, methT, own1, ptL, h6, hnb]
          · repeat (refine conj.of (by first | omega | decide) ?_; simp (disch := first | assumption | exact Ne.symm (by assumption) | omega) only [hF1, hF5, hb5, Int.reduceBEq, Int.reduceNeg, ↓ZD, ZU, ZR, Za, Zb, Zc, Zd, Ze, Zf, Zg, Zh, Zi, Zj, Zk, Zl, Zm, Zn, Zo, Zp, Zq, Zr, reduceIte, reduceCtorEq, Zs, Zt, Zu, Zv])
            have hql := quote_len nm
            refine CallE.pure (rquote_pure F nm (by omega)) ?_
            simp (disch := first | assumption | exact Ne.symm (by assumption) | omega) only [hF1, ↓ZD, ZU, ZR, Za, Zb, Zc, Zd, Ze, Zf, Zg, Zh, Zi, Zj, Zk, Zl, Zm, Zn, Zo, Zp, Zq, Zr, reduceIte, reduceCtorEq, Zs, Zt, Zu, Zv]
            repeat (refine conj.of (by first | omega | (simp only [List.length_append, List.length_cons, List.length_nil]; omega)) ?_; simp (disch := first | assumption | exact Ne.symm (by assumption) | omega) only [hF1, ↓ZD, ZU, ZR, Za, Zb, Zc, Zd, Ze, Zf, Zg, Zh, Zi, Zj, Zk, Zl, Zm, Zn, Zo, Zp, Zq, Zr, reduceIte, reduceCtorEq, Zs, Zt, Zu, Zv])
            simp [nodeT, nodeOk, isTwo, methT, own1, ptL, h6, hnb]
        · have e6 : (x.op == 6 || x.op == 14) = false := by simpa using h6
          simp (disch := first | assumption | exact Ne.symm (by assumption) | omega) only [hF1, hF5, hb5, e6, ↓k1, Int.reduceBEq, Int.reduceNeg, ↓ZD, ZU, ZR, Za, Zb, Zc, Zd, Ze, Zf, Zg, Zh, Zi, Zj, Zk, Zl, Zm, Zn, Zo, Zp, Zq, Zr, reduceIte, reduceCtorEq, Zs, Zt, Zu, Zv]
          repeat (refine conj.of (by first | omega | decide) ?_; simp (disch := first | assumption | exact Ne.symm (by assumption) | omega) only [hF1, hF5, hb5, e6, ↓k1, Int.reduceBEq, Int.reduceNeg, ↓ZD, ZU, ZR, Za, Zb, Zc, Zd, Ze, Zf, Zg, Zh, Zi, Zj, Zk, Zl, Zm, Zn, Zo, Zp, Zq, Zr, reduceIte, reduceCtorEq, Zs, Zt, Zu, Zv])
          refine CallE.pure (rname_pure F nm (by omega)) ?_
          simp (disch := first | assumption | exact Ne.symm (by assumption) | omega) only [hF1, hF5, hb5, ↓ZD, ZU, ZR, Za, Zb, Zc, Zd, Ze, Zf, Zg, Zh, Zi, Zj, Zk, Zl, Zm, Zn, Zo, Zp, Zq, Zr, reduceIte, reduceCtorEq, Zs, Zt, Zu, Zv]
          refine ⟨fun hnb => ?_, fun hnb => ?_⟩
          · repeat (refine conj.of (by first | omega | decide) ?_; simp (disch := first | assumption | exact Ne.symm (by assumption) | omega) only [hF1, hF5, hb5, Int.reduceBEq, Int.reduceNeg, ↓ZD, ZU, ZR, Za, Zb, Zc, Zd, Ze, Zf, Zg, Zh, Zi, Zj, Zk, Zl, Zm, Zn, Zo, Zp, Zq, Zr, reduceIte, reduceCtorEq, Zs, Zt, Zu, Zv])
            simp [nodeT, nodeOk, isTwo, methT, own1, ptL, h6, hnb]
          · repeat (refine conj.of (by first | omega | decide) ?_; simp (disch := first | assumption | exact Ne.symm (by assumption) | omega) only [hF1, hF5, hb5, Int.reduceBEq, Int.reduceNeg, ↓ZD, ZU, ZR, Za, Zb, Zc, Zd, Ze, Zf, Zg, Zh, Zi, Zj, Zk, Zl, Zm, Zn, Zo, Zp, Zq, Zr, reduceIte, reduceCtorEq, Zs, Zt, Zu, Zv])
            have hql := quote_len nm
            refine CallE.pure (rquote_pure F nm (by omega)) ?_
            simp (disch := first | assumption | exact Ne.symm (by assumption) | omega) only [hF1, ↓ZD, ZU, ZR, Za, Zb, Zc, Zd, Ze, Zf, Zg, Zh, Zi, Zj, Zk, Zl, Zm, Zn, Zo, Zp, Zq, Zr, reduceIte, reduceCtorEq, Zs, Zt, Zu, Zv]
            repeat (refine conj.of (by first | omega | (simp only [List.length_append, List.length_cons, List.length_nil]; omega)) ?_; simp (disch := first | assumption | exact Ne.symm (by assumption) | omega) only [hF1, ↓ZD, ZU, ZR, Za, Zb, Zc, Zd, Ze, Zf, Zg, Zh, Zi, Zj, Zk, Zl, Zm, Zn, Zo, Zp, Zq, Zr, reduceIte, reduceCtorEq, Zs, Zt, Zu, Zv])
            simp [nodeT, nodeOk, isTwo, methT, own1, ptL, h6, hnb]
      · have hls := lenS_le (fun i t h => pt_len (r1 i t h))
        have hlp := ptL_len kids
        have hrl := rowT_len ahQ (fun _ => 0) (fun _ => by simp [ahQ]) (ptL kids) 0
        rw [sum_zero, hlp] at hrl
        have hks := own_slsK (G := rdObj F ((b1, .cells (xcells 19 v u1 u2 nm (.slice a1 kids.length c1) (.slice an names.length cn)).toArray 30 (0, 0)) :: Ho)) (ks := ptL kids) (by rw [ptL_len]; exact ho) (fun e he => by
          have := ho.lk [(b1, .cells (xcells 19 v u1 u2 nm (.slice a1 kids.length c1) (.slice an names.length cn)).toArray 30 (0, 0))] (by simp only [List.forall_mem_cons, List.not_mem_nil, false_implies, implies_true, and_true]; exact hob) e he
          rw [rdObj_own (OwnS.noneF ho e he)]; exact this) (fun x hx => by
          obtain ⟨i, hi⟩ := List.getElem?_of_mem hx
          have := getD_lenS (ptL kids) i
          rw [List.getD_eq_getElem?_getD, hi] at this
          simp only [Option.getD_some] at this
          omega)
        simp (disch := first | assumption | exact Ne.symm (by assumption) | omega) only [hF1, hd, Int.reduceBEq, Int.reduceNeg, ↓ZD, ZU, ZR, Za, Zb, Zc, Zd, Ze, Zf, Zg, Zh, Zi, Zj, Zk, Zl, Zm, Zn, Zo, Zp, Zq, Zr, reduceIte, reduceCtorEq, Zs, Zt, Zu, Zv]
        refine CallE.pureH (rrow_set _ (hN0.mono le_up) (by decide) hks (by omega)) ?_
        simp (disch := first | assumption | exact Ne.symm (by assumption) | omega) only [hF1, ↓ZD, ZU, ZR, Za, Zb, Zc, Zd, Ze, Zf, Zg, Zh, Zi, Zj, Zk, Zl, Zm, Zn, Zo, Zp, Zq, Zr, reduceIte, reduceCtorEq, Zs, Zt, Zu, Zv]
        simp [nodeT, nodeOk, isTwo]; rfl
      · have hls := lenS_le (fun i t h => pt_len (r1 i t h))
        have hlp := ptL_len kids
        have hrl := rowT_len (ahN names) (fun i => 4 * (names.getD i []).length + 4) (fun i => by have := quote_len (names.getD i []); simp only [ahN, List.length_append, List.length_cons, List.length_nil]; omega) (ptL kids) 0
        simp only [Nat.zero_add] at hrl
        have hsg := sum_getD names (ptL kids).length
        rw [hlp] at hrl hsg
        have hks := own_slsK (G := rdObj F ((b1, .cells (xcells 20 v u1 u2 nm (.slice a1 kids.length c1) (.slice an names.length cn)).toArray 30 (0, 0)) :: Ho)) (ks := ptL kids) (by rw [ptL_len]; exact ho) (fun e he => by
          have := ho.lk [(b1, .cells (xcells 20 v u1 u2 nm (.slice a1 kids.length c1) (.slice an names.length cn)).toArray 30 (0, 0))] (by simp only [List.forall_mem_cons, List.not_mem_nil, false_implies, implies_true, and_true]; exact hob) e he
          rw [rdObj_own (OwnS.noneF ho e he)]; exact this) (fun x hx => by
          obtain ⟨i, hi⟩ := List.getElem?_of_mem hx
          have := getD_lenS (ptL kids) i
          rw [List.getD_eq_getElem?_getD, hi] at this
          simp only [Option.getD_some] at this
          omega)
        simp (disch := first | assumption | exact Ne.symm (by assumption) | omega) only [hF1, hd, Int.reduceBEq, Int.reduceNeg, ↓ZD, ZU, ZR, Za, Zb, Zc, Zd, Ze, Zf, Zg, Zh, Zi, Zj, Zk, Zl, Zm, Zn, Zo, Zp, Zq, Zr, reduceIte, reduceCtorEq, Zs, Zt, Zu, Zv]
        refine CallE.pureH (rrow_rec _ (hN0.mono le_up) rfl hks (by rw [hlp]; exact hr4 rfl) (fun x hx => by unfold Sm; have := sum_mem hx; omega) (by omega)) ?_
        simp (disch := first | assumption | exact Ne.symm (by assumption) | omega) only [hF1, ↓ZD, ZU, ZR, Za, Zb, Zc, Zd, Ze, Zf, Zg, Zh, Zi, Zj, Zk, Zl, Zm, Zn, Zo, Zp, Zq, Zr, reduceIte, reduceCtorEq, Zs, Zt, Zu, Zv]
        simp [nodeT, nodeOk, isTwo]; rfl
      · obtain ⟨x, y, rfl⟩ : ∃ x y, kids = [x, y] := by
          have := hr3 (by decide)
          rw [show kidsI 21 = 2 by decide] at this
          match kids, this with | [x, y], _ => exact ⟨x, y, rfl⟩
        have lx := pt_len (r1 0 x (by simp))
        have ly := pt_len (r1 1 y (by simp))
        simp only [wtL] at hw
        simp only [ptL, List.map_cons, List.map_nil, List.length_cons, List.length_nil] at ho
        rcases ho.out with ⟨h0, -⟩ | ⟨b5, cap5, sp5, rfl, rfl, hF5, -, hs5, hc5, hm5⟩
        · cases h0
        have hb5 : b5 ≠ b1 := by simpa using hob
        have q0 := (h1 0 x (by simp)).all
        obtain ⟨r, hr⟩ := (r1 0 x (by simp)).hd
        rw [hr] at q0
        obtain ⟨ba, oa, rfl, -, hla⟩ := q0
        have k1 := hla 0 (by omega)
        simp only [List.getD_cons_zero, Nat.zero_mul, Nat.add_zero] at k1
        by_cases h6 : x.op = 6 ∨ x.op = 14
        · have e6 : (x.op == 6 || x.op == 14) = true := by simpa using h6
          simp (disch := first | assumption | exact Ne.symm (by assumption) | omega) only [hF1, hF5, hb5, e6, ↓k1, Int.reduceBEq, Int.reduceNeg, ↓ZD, ZU, ZR, Za, Zb, Zc, Zd, Ze, Zf, Zg, Zh, Zi, Zj, Zk, Zl, Zm, Zn, Zo, Zp, Zq, Zr, reduceIte, reduceCtorEq, Zs, Zt, Zu, Zv]
          repeat (refine conj.of (by first | omega | decide) ?_; simp (disch := first | assumption | exact Ne.symm (by assumption) | omega) only [hF1, hF5, hb5, e6, ↓k1, Int.reduceBEq, Int.reduceNeg, ↓ZD, ZU, ZR, Za, Zb, Zc, Zd, Ze, Zf, Zg, Zh, Zi, Zj, Zk, Zl, Zm, Zn, Zo, Zp, Zq, Zr, reduceIte, reduceCtorEq, Zs, Zt, Zu, Zv])
          simp [nodeT, nodeOk, isTwo, methT, own1, ptL, h6]
        · have e6 : (x.op == 6 || x.op == 14) = false := by simpa using h6
          simp (disch := first | assumption | exact Ne.symm (by assumption) | omega) only [hF1, hF5, hb5, e6, ↓k1, Int.reduceBEq, Int.reduceNeg, ↓ZD, ZU, ZR, Za, Zb, Zc, Zd, Ze, Zf, Zg, Zh, Zi, Zj, Zk, Zl, Zm, Zn, Zo, Zp, Zq, Zr, reduceIte, reduceCtorEq, Zs, Zt, Zu, Zv]
          repeat (refine conj.of (by first | omega | decide) ?_; simp (disch := first | assumption | exact Ne.symm (by assumption) | omega) only [hF1, hF5, hb5, e6, ↓k1, Int.reduceBEq, Int.reduceNeg, ↓ZD, ZU, ZR, Za, Zb, Zc, Zd, Ze, Zf, Zg, Zh, Zi, Zj, Zk, Zl, Zm, Zn, Zo, Zp, Zq, Zr, reduceIte, reduceCtorEq, Zs, Zt, Zu, Zv])
          simp [nodeT, nodeOk, isTwo, methT, own1, ptL, h6]
      · obtain ⟨x, y, rfl⟩ : ∃ x y, kids = [x, y] := by
          have := hr3 (by decide)
          rw [show kidsI 22 = 2 by decide] at this
          match kids, this with | [x, y], _ => exact ⟨x, y, rfl⟩
        have lx := pt_len (r1 0 x (by simp))
        have ly := pt_len (r1 1 y (by simp))
        simp only [wtL] at hw
        simp only [ptL, List.map_cons, List.map_nil, List.length_cons, List.length_nil] at ho
        rcases ho.out with ⟨h0, -⟩ | ⟨b5, cap5, sp5, rfl, rfl, hF5, -, hs5, hc5, hm5⟩
        · cases h0
        have hb5 : b5 ≠ b1 := by simpa using hob
        have q0 := (h1 0 x (by simp)).all
        obtain ⟨r, hr⟩ := (r1 0 x (by simp)).hd
        rw [hr] at q0
        obtain ⟨ba, oa, rfl, -, hla⟩ := q0
        have k1 := hla 0 (by omega)
        simp only [List.getD_cons_zero, Nat.zero_mul, Nat.add_zero] at k1
        by_cases h6 : x.op = 6 ∨ x.op = 14
        · have e6 : (x.op == 6 || x.op == 14) = true := by simpa using h6
          simp (disch := first | assumption | exact Ne.symm (by assumption) | omega) only [hF1, hF5, hb5, e6, ↓k1, Int.reduceBEq, Int.reduceNeg, ↓ZD, ZU, ZR, Za, Zb, Zc, Zd, Ze, Zf, Zg, Zh, Zi, Zj, Zk, Zl, Zm, Zn, Zo, Zp, Zq, Zr, reduceIte, reduceCtorEq, Zs, Zt, Zu, Zv]
          repeat (refine conj.of (by first | omega | decide) ?_; simp (disch := first | assumption | exact Ne.symm (by assumption) | omega) only [hF1, hF5, hb5, e6, ↓k1, Int.reduceBEq, Int.reduceNeg, ↓ZD, ZU, ZR, Za, Zb, Zc, Zd, Ze, Zf, Zg, Zh, Zi, Zj, Zk, Zl, Zm, Zn, Zo, Zp, Zq, Zr, reduceIte, reduceCtorEq, Zs, Zt, Zu, Zv])
          simp [nodeT, nodeOk, isTwo, methT, own1, ptL, h6]
        · have e6 : (x.op == 6 || x.op == 14) = false := by simpa using h6
          simp (disch := first | assumption | exact Ne.symm (by assumption) | omega) only [hF1, hF5, hb5, e6, ↓k1, Int.reduceBEq, Int.reduceNeg, ↓ZD, ZU, ZR, Za, Zb, Zc, Zd, Ze, Zf, Zg, Zh, Zi, Zj, Zk, Zl, Zm, Zn, Zo, Zp, Zq, Zr, reduceIte, reduceCtorEq, Zs, Zt, Zu, Zv]
          repeat (refine conj.of (by first | omega | decide) ?_; simp (disch := first | assumption | exact Ne.symm (by assumption) | omega) only [hF1, hF5, hb5, e6, ↓k1, Int.reduceBEq, Int.reduceNeg, ↓ZD, ZU, ZR, Za, Zb, Zc, Zd, Ze, Zf, Zg, Zh, Zi, Zj, Zk, Zl, Zm, Zn, Zo, Zp, Zq, Zr, reduceIte, reduceCtorEq, Zs, Zt, Zu, Zv])
          simp [nodeT, nodeOk, isTwo, methT, own1, ptL, h6]
      · obtain ⟨x, y, rfl⟩ : ∃ x y, kids = [x, y] := by
          have := hr3 (by decide)
          rw [show kidsI 23 = 2 by decide] at this
          match kids, this with | [x, y], _ => exact ⟨x, y, rfl⟩
        have lx := pt_len (r1 0 x (by simp))
        have ly := pt_len (r1 1 y (by simp))
        simp only [wtL] at hw
        simp only [ptL, List.map_cons, List.map_nil, List.length_cons, List.length_nil] at ho
        rcases ho.out with ⟨h0, -⟩ | ⟨b5, cap5, sp5, rfl, rfl, hF5, -, hs5, hc5, hm5⟩
        · cases h0
        have hb5 : b5 ≠ b1 := by simpa using hob
        have q0 := (h1 0 x (by simp)).all
        obtain ⟨r, hr⟩ := (r1 0 x (by simp)).hd
        rw [hr] at q0
        obtain ⟨ba, oa, rfl, -, hla⟩ := q0
        have k1 := hla 0 (by omega)
        simp only [List.getD_cons_zero, Nat.zero_mul, Nat.add_zero] at k1
        by_cases h6 : x.op = 6 ∨ x.op = 14
        · have e6 : (x.op == 6 || x.op == 14) = true := by simpa using h6
          simp (disch := first | assumption | exact Ne.symm (by assumption) | omega) only [hF1, hF5, hb5, e6, ↓k1, Int.reduceBEq, Int.reduceNeg, ↓ZD, ZU, ZR, Za, Zb, Zc, Zd, Ze, Zf, Zg, Zh, Zi, Zj, Zk, Zl, Zm, Zn, Zo, Zp, Zq, Zr, reduceIte, reduceCtorEq, Zs, Zt, Zu, Zv]
          repeat (refine conj.of (by first | omega | decide) ?_; simp (disch := first | assumption | exact Ne.symm (by assumption) | omega) only [hF1, hF5, hb5, e6, ↓k1, Int.reduceBEq, Int.reduceNeg, ↓ZD, ZU, ZR, Za, Zb, Zc, Zd, Ze, Zf, Zg, Zh, Zi, Zj, Zk, Zl, Zm, Zn, Zo, Zp, Zq, Zr, reduceIte, reduceCtorEq, Zs, Zt, Zu, Zv])
          simp [nodeT, nodeOk, isTwo, methT, own1, ptL, h6]
        · have e6 : (x.op == 6 || x.op == 14) = false := by simpa using h6
          simp (disch := first | assumption | exact Ne.symm (by assumption) | omega) only [hF1, hF5, hb5, e6, ↓k1, Int.reduceBEq, Int.reduceNeg, ↓ZD, ZU, ZR, Za, Zb, Zc, Zd, Ze, Zf, Zg, Zh, Zi, Zj, Zk, Zl, Zm, Zn, Zo, Zp, Zq, Zr, reduceIte, reduceCtorEq, Zs, Zt, Zu, Zv]
          repeat (refine conj.of (by first | omega | decide) ?_; simp (disch := first | assumption | exact Ne.symm (by assumption) | omega) only [hF1, hF5, hb5, e6, ↓k1, Int.reduceBEq, Int.reduceNeg, ↓ZD, ZU, ZR, Za, Zb, Zc, Zd, Ze, Zf, Zg, Zh, Zi, Zj, Zk, Zl, Zm, Zn, Zo, Zp, Zq, Zr, reduceIte, reduceCtorEq, Zs, Zt, Zu, Zv])
          simp [nodeT, nodeOk, isTwo, methT, own1, ptL, h6]
      · omega
end Go.Proofs.YtoelfmmfjebabaaDoor
