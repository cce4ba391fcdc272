/- Layer 10: an expression, told. -/
import Derived.Test.YtoelfmmfjebabaaDoorPnP
namespace Go.Proofs.YtoelfmmfjebabaaDoor
open Go Go.Eng
open Int renaming reduceEq → Za, reduceToNat → Zm, reduceLE → Zn, reduceLT → Zo, reduceAdd → Zp, reduceSub → Zq, reduceNeg → Zr, reducePow → Zt, reduceNegSucc → Zv
open UInt8 renaming reduceOfNat → Zb
open List renaming mapM_cons → Zc, mapM_nil → Zd
open Nat renaming reduceAdd → Ze, reduceMul → Zf, reduceMod → Zg, reduceDiv → Zh, reduceEqDiff → Zi, reduceBEq → Zj, reduceLeDiff → Zk, reduceSub → Zl, reducePow → Zs, reduceLT → Zu
set_option linter.unusedSimpArgs false
set_option linter.unusedVariables false
set_option maxRecDepth 20000

def HasSigns (F : Base) : Prop := ∃ b es c T fz, F 0 = some (.cells #[.map (some b)] T fz) ∧ F b = some (.map es c) ∧
  ∀ k : Int, ∃ j, Instr.findNow (.int .i64) (.int .i64 k) es.toList 0 = some (if isTwo k then some (j, .string (bs (signT k))) else none)
theorem HasSigns.mono {F F' : Base} (h : HasSigns F) (hF : ∀ b o, F b = some o → F' b = some o) : HasSigns F' := by
  obtain ⟨b, es, c, T, fz, h1, h2, h3⟩ := h
  exact ⟨b, es, c, T, fz, hF _ _ h1, hF _ _ h2, h3⟩
def ifT (x y z : Ex') (i : Int) : Str := (if 0 < i then [40, 105, 102, 32] ++ pt x else []) ++ ((if 1 < i then [32, 116, 104, 101, 110, 32] ++ pt y else []) ++ (if 2 < i then [32, 101, 108, 115, 101, 32] ++ pt z else []))
def ifB (x y z : Ex') (i : Int) : Bool := (decide (i ≤ 0) || okX x) && ((decide (i ≤ 1) || okX y) && (decide (i ≤ 2) || okX z))
theorem HLe_pre {Hr A : Hp} (h : ∀ e ∈ A, lk A e.1 = some e.2) (hd : ∀ e ∈ A, ∀ e' ∈ Hr, e.1 ≠ e'.1) : HLe A (Hr ++ A) := by
  have key : ∀ B : Hp, (∀ e ∈ B, lk (Hr ++ A) e.1 = some e.2) → HLe B (Hr ++ A) := fun B => by
    induction B with
    | nil => intro _; trivial
    | cons e r ih =>
      obtain ⟨b', o'⟩ := e
      intro h
      exact ⟨h _ List.mem_cons_self, ih fun e he => h e (List.mem_cons_of_mem _ he)⟩
  refine key A fun e he => ?_
  rw [lk_append, lk_none fun e' he' => (hd e he e' he').symm]
  exact h e he
theorem sum_mem' {x : Str} : ∀ {l : List Str}, x ∈ l → x.length + 1 ≤ (l.map fun x => x.length + 1).sum
  | y :: l, h => by
    rw [List.map_cons, List.sum_cons]
    rcases List.mem_cons.1 h with rfl | h
    · omega
    · have := sum_mem' h; omega
theorem Pst.cast {F : Base} {b : Nat} {s s' : Str} {bad bad' : Bool} {H : Hp} (h : Pst F b s bad H) (e1 : s = s') (e2 : bad = bad') : Pst F b s' bad' H := by subst e1 e2; exact h
set_option maxHeartbeats 4000000 in
theorem expr_node (F : Base) (hM : HasM F) (hS : HasSigns F) {op : Int} {v : LV} {d1 d4 : Option Addr} {d2 d3 d5 d6 : Nat} {nm : Str} {a1 : Option Addr} {c1 : Nat} {kids : List Ex'} {g1 : Nat → List Value} {vn : Value} {names : List Str}
    (hop : I64 op) (hk : I64 v.kind) (hn : I64 v.n) (hl1 : kids.length ≤ 9223372036854775807) (hc1 : kids.length ≤ c1)
    (h1 : ∀ (i : Nat) (t : Ex'), kids[i]? = some t → Cl F a1 12 i (g1 i)) (r1 : ∀ (i : Nat) (t : Ex'), kids[i]? = some t → RepX F (g1 i) t) (hN : SlS F vn names)
    (hw : wt (.mk op v nm kids names) ≤ 1048576) (ih : ∀ (i : Nat) (t : Ex'), kids[i]? = some t → XW F t (g1 i)) (b : Nat) (s : Str) (bad : Bool) (hl : s.length + (pt (.mk op v nm kids names)).length ≤ 100000000000000) :
    Wr F 15 [.pointer (some ⟨b, 0, none⟩), .agg (xcells op v (.slice d1 d2 d3) (.slice d4 d5 d6) nm (.slice a1 kids.length c1) vn).toArray] b s bad (s ++ pt (.mk op v nm kids names)) (bad || !okX (.mk op v nm kids names)) (.tuple #[]) := by
  have hN0 := hN
  obtain ⟨an, cn, rfl, hcn, hln, hh⟩ := hN
  rw [wt] at hw
  have kp := kids_pure F op
  refine Wr.of_svc mixed Tryd.func15 low15 (Nat.le_of_ble_eq_true rfl) fun H0 hp w0 hw0 => ?_
  unfold xcells
  simp (disch := first | assumption | exact Ne.symm (by assumption) | omega) only [fu15, ↓ZD, ZU, ZR, Za, Zb, Zc, Zd, Ze, Zf, Zg, Zh, Zi, Zj, Zk, Zl, Zm, Zn, Zo, Zp, Zq, Zr, reduceIte, reduceCtorEq, Zs, Zt, Zu, Zv]
  refine NewB.of fun b2 hb2 hF2 => ?_
  simp (disch := first | assumption | exact Ne.symm (by assumption) | omega) only [hF2, ↓ZD, ZU, ZR, Za, Zb, Zc, Zd, Ze, Zf, Zg, Zh, Zi, Zj, Zk, Zl, Zm, Zn, Zo, Zp, Zq, Zr, reduceIte, reduceCtorEq, Zs, Zt, Zu, Zv]
  refine NewB.of fun b3 hb3 hF3 => ?_
  simp only [List.forall_mem_cons, List.mem_cons, forall_eq_or_imp] at hb3
  obtain ⟨hb23, hb3⟩ := hb3
  simp (disch := first | assumption | exact Ne.symm (by assumption) | omega) only [hF2, hF3, ↓ZD, ZU, ZR, Za, Zb, Zc, Zd, Ze, Zf, Zg, Zh, Zi, Zj, Zk, Zl, Zm, Zn, Zo, Zp, Zq, Zr, reduceIte, reduceCtorEq, Zs, Zt, Zu, Zv]
  refine CallE.pure kp ?_
  simp (disch := first | assumption | exact Ne.symm (by assumption) | omega) only [hF2, hF3, ↓ZD, ZU, ZR, Za, Zb, Zc, Zd, Ze, Zf, Zg, Zh, Zi, Zj, Zk, Zl, Zm, Zn, Zo, Zp, Zq, Zr, reduceIte, reduceCtorEq, Zs, Zt, Zu, Zv]
  generalize hA : decide (3 < kidsI op) = A
  generalize hB : decide (0 ≤ kidsI op) = B
  generalize hC : ((kids.length : Int) != kidsI op) = C
  have har : ∀ t, (A || B && C) = t → arOk op kids.length names.length = (!t && !(op == 20 && ((names.length : Int) != (kids.length : Int)))) := by rintro _ rfl; rw [← hA, ← hB, ← hC]; rfl
  generalize hD : (A || B && C) = D at har ⊢
  refine ⟨fun hDt => ?_, fun hDf => ?_⟩
  · subst hDt
    refine CallE.wr [(b3, .cells #[Value.int IntKind.i64 op, Value.int IntKind.i64 v.kind, Value.bool v.bo, Value.int IntKind.i64 v.n, Value.string (bs v.tx), Value.string (bs v.ty), Value.string (bs v.id), .slice d1 d2 d3, .slice d4 d5 d6, Value.string (bs nm), Value.slice a1 kids.length c1, Value.slice an names.length cn] 30 (0, 0)), (b2, .cells #[.pointer (some ⟨b, 0, none⟩)] 51 (0, 0))] H0 (must_wr _ b s bad false) hp (by simp +contextual) (by simp +contextual) (by simp only [List.forall_mem_cons, List.not_mem_nil, false_implies, implies_true, and_true]; exact ⟨hb3, hb2⟩) ?_
    intro H1 hp1 hd1
    simp (disch := first | assumption | exact Ne.symm (by assumption) | omega) only [↓ZD, ZU, ZR, Za, Zb, Zc, Zd, Ze, Zf, Zg, Zh, Zi, Zj, Zk, Zl, Zm, Zn, Zo, Zp, Zq, Zr, reduceIte, reduceCtorEq, Zs, Zt, Zu, Zv]
    refine ⟨H1, by simp +contextual, ?_⟩
    rw [pt, okX, har true rfl]
    simpa using hp1
  · subst hDf
    have har := har false rfl
    obtain ⟨bm, es, cm, Tm, fz, g1', g2, g3⟩ := hS
    obtain ⟨jm, g3⟩ := g3 op
    simp (disch := first | assumption | exact Ne.symm (by assumption) | omega) only [hF2, hF3, g1', ↓ZD, ZU, ZR, Za, Zb, Zc, Zd, Ze, Zf, Zg, Zh, Zi, Zj, Zk, Zl, Zm, Zn, Zo, Zp, Zq, Zr, reduceIte, reduceCtorEq, Zs, Zt, Zu, Zv]
    refine EfL.get (by simp [mapEs, rdObj, g2]) g3 ?_
    have hr3 : 0 ≤ kidsI op → (kids.length : Int) = kidsI op := fun h => by
      have h2 : (A || B && C) = false := hD
      rw [← hB, ← hC, decide_eq_true h] at h2
      simpa using (Bool.or_eq_false_iff.1 h2).2
    have hbig : ¬ (op < 1 ∨ 23 < op) := fun h => by
      have e4 : kidsI op = 4 := by unfold kidsI; rw [if_pos h]
      rw [e4] at hA
      have : A = true := by rw [← hA]; decide
      rw [this] at hD; simp at hD
    clear hA hB hC hD
    rcases ops_of op with ho1 | rfl | rfl | rfl | rfl | rfl | rfl | rfl | rfl | rfl | rfl | rfl | rfl | rfl | rfl | rfl | rfl | rfl | rfl | rfl | rfl | rfl | rfl | rfl | ho1
    · exact (hbig (.inl ho1)).elim
    · obtain rfl : kids = [] := by
        have := hr3 (by decide)
        rw [show kidsI 1 = 0 by decide] at this
        match kids, this with | [], _ => rfl
      have har : arOk 1 0 names.length = true := by simpa using har
      rw [show isTwo 1 = false from rfl, if_neg (by decide)]
      have hl2 : s.length + (litT v).length ≤ 100000000000000 := by simpa [pt, har, nodeT] using hl
      simp (disch := first | assumption | exact Ne.symm (by assumption) | omega) only [hF2, hF3, getV, Int.reduceBEq, ↓ZD, ZU, ZR, Za, Zb, Zc, Zd, Ze, Zf, Zg, Zh, Zi, Zj, Zk, Zl, Zm, Zn, Zo, Zp, Zq, Zr, reduceIte, reduceCtorEq, Zs, Zt, Zu, Zv]
      refine wr_11 (lit_wr _ (hM.mono le_up) b s bad v (.slice d1 d2 d3) (.slice d4 d5 d6) (by omega) (by unfold Sm; omega) (by unfold Sm; omega) (by unfold Sm; omega) hn) hp hb3 hb2 fun Hw0 hpw0 hdw0_0 hdw0_1 => ?_
      simp (disch := first | assumption | exact Ne.symm (by assumption) | omega) only [hF2, hF3, Int.reduceBEq, ↓ZD, ZU, ZR, Za, Zb, Zc, Zd, Ze, Zf, Zg, Zh, Zi, Zj, Zk, Zl, Zm, Zn, Zo, Zp, Zq, Zr, reduceIte, reduceCtorEq, Zs, Zt, Zu, Zv]
      refine ⟨Hw0, by simp +contextual, ?_⟩
      refine hpw0.cast ?_ ?_
      · simp [pt, har, nodeT, isTwo, signT, methT, ptL]
      · simp [okX, okL, har, nodeOk, litOk]
    · obtain rfl : kids = [] := by
        have := hr3 (by decide)
        rw [show kidsI 2 = 0 by decide] at this
        match kids, this with | [], _ => rfl
      have har : arOk 2 0 names.length = true := by simpa using har
      rw [show isTwo 2 = false from rfl, if_neg (by decide)]
      have hl2 : s.length + nm.length ≤ 100000000000000 := by simpa [pt, har, nodeT] using hl
      simp (disch := first | assumption | exact Ne.symm (by assumption) | omega) only [hF2, hF3, getV, Int.reduceBEq, ↓ZD, ZU, ZR, Za, Zb, Zc, Zd, Ze, Zf, Zg, Zh, Zi, Zj, Zk, Zl, Zm, Zn, Zo, Zp, Zq, Zr, reduceIte, reduceCtorEq, Zs, Zt, Zu, Zv]
      refine TreeL.open ?_
      simp (disch := first | assumption | exact Ne.symm (by assumption) | omega) only [hF2, hF3, Int.reduceBEq, ↓ZD, ZU, ZR, Za, Zb, Zc, Zd, Ze, Zf, Zg, Zh, Zi, Zj, Zk, Zl, Zm, Zn, Zo, Zp, Zq, Zr, reduceIte, reduceCtorEq, Zs, Zt, Zu, Zv]
      refine new_2 fun b5 he5_0 he5_1 hb5 hF5 => ?_
      simp (disch := first | assumption | exact Ne.symm (by assumption) | omega) only [hF2, hF3, hF5, Int.reduceBEq, ↓ZD, ZU, ZR, Za, Zb, Zc, Zd, Ze, Zf, Zg, Zh, Zi, Zj, Zk, Zl, Zm, Zn, Zo, Zp, Zq, Zr, reduceIte, reduceCtorEq, Zs, Zt, Zu, Zv]
      refine CallQ.of _ (contains_pure _ (slsN (l := varL) (b := b5) (T := 9) (by simp [rdObj, hF5, lk, varL]) (by decide) (by decide)) nm) ?_
      simp (disch := first | assumption | exact Ne.symm (by assumption) | omega) only [hF2, hF3, hF5, Int.reduceBEq, ↓ZD, ZU, ZR, Za, Zb, Zc, Zd, Ze, Zf, Zg, Zh, Zi, Zj, Zk, Zl, Zm, Zn, Zo, Zp, Zq, Zr, reduceIte, reduceCtorEq, Zs, Zt, Zu, Zv]
      refine wr_011 (must_wr _ b s bad _) hp hb3 hb2 fun Hw0 hpw0 hdw0_0 hdw0_1 => ?_
      simp (disch := first | assumption | exact Ne.symm (by assumption) | omega) only [hF2, hF3, hF5, Int.reduceBEq, ↓ZD, ZU, ZR, Za, Zb, Zc, Zd, Ze, Zf, Zg, Zh, Zi, Zj, Zk, Zl, Zm, Zn, Zo, Zp, Zq, Zr, reduceIte, reduceCtorEq, Zs, Zt, Zu, Zv]
      refine new_2 fun b6 he6_0 he6_1 hb6 hF6 => ?_
      simp (disch := first | assumption | exact Ne.symm (by assumption) | omega) only [hF2, hF3, hF6, Int.reduceBEq, ↓ZD, ZU, ZR, Za, Zb, Zc, Zd, Ze, Zf, Zg, Zh, Zi, Zj, Zk, Zl, Zm, Zn, Zo, Zp, Zq, Zr, reduceIte, reduceCtorEq, Zs, Zt, Zu, Zv]
      refine wr_111 (put1 _ b b6 9 (s) (nm) _ (by simp [rdObj, hF6, lk]) (by (try simp only [List.length_append, List.length_cons, List.length_nil]); omega)) hpw0 hb6 hdw0_0 hdw0_1 fun Hw1 hpw1 hdw1_0 hdw1_1 hdw1_2 => ?_
      simp (disch := first | assumption | exact Ne.symm (by assumption) | omega) only [hF2, hF3, hF6, Int.reduceBEq, ↓ZD, ZU, ZR, Za, Zb, Zc, Zd, Ze, Zf, Zg, Zh, Zi, Zj, Zk, Zl, Zm, Zn, Zo, Zp, Zq, Zr, reduceIte, reduceCtorEq, Zs, Zt, Zu, Zv]
      refine ⟨Hw1, by simp +contextual, ?_⟩
      refine hpw1.cast ?_ ?_
      · simp [pt, har, nodeT, isTwo, signT, methT, ptL]
      · simp [okX, okL, har, nodeOk, litOk]
    · obtain rfl : kids = [] := by
        have := hr3 (by decide)
        rw [show kidsI 3 = 0 by decide] at this
        match kids, this with | [], _ => rfl
      have har : arOk 3 0 names.length = true := by simpa using har
      rw [show isTwo 3 = false from rfl, if_neg (by decide)]
      have hl2 : s.length + (1 + nm.length) ≤ 100000000000000 := by simpa [pt, har, nodeT, Nat.add_comm] using hl
      simp (disch := first | assumption | exact Ne.symm (by assumption) | omega) only [hF2, hF3, getV, Int.reduceBEq, ↓ZD, ZU, ZR, Za, Zb, Zc, Zd, Ze, Zf, Zg, Zh, Zi, Zj, Zk, Zl, Zm, Zn, Zo, Zp, Zq, Zr, reduceIte, reduceCtorEq, Zs, Zt, Zu, Zv]
      rw [show (nm == [112, 114, 105, 110, 99, 105, 112, 97, 108] || nm == [114, 101, 115, 111, 117, 114, 99, 101]) = decide (nm ∈ slotL) by rw [Bool.eq_iff_iff]; simp [slotL]]
      refine wr_11 (must_wr _ b s bad (decide (nm ∈ slotL))) hp hb3 hb2 fun Hw0 hpw0 hdw0_0 hdw0_1 => ?_
      simp (disch := first | assumption | exact Ne.symm (by assumption) | omega) only [hF2, hF3, Int.reduceBEq, ↓ZD, ZU, ZR, Za, Zb, Zc, Zd, Ze, Zf, Zg, Zh, Zi, Zj, Zk, Zl, Zm, Zn, Zo, Zp, Zq, Zr, reduceIte, reduceCtorEq, Zs, Zt, Zu, Zv]
      refine new_2 fun b5 he5_0 he5_1 hb5 hF5 => ?_
      simp (disch := first | assumption | exact Ne.symm (by assumption) | omega) only [hF2, hF3, hF5, Int.reduceBEq, ↓ZD, ZU, ZR, Za, Zb, Zc, Zd, Ze, Zf, Zg, Zh, Zi, Zj, Zk, Zl, Zm, Zn, Zo, Zp, Zq, Zr, reduceIte, reduceCtorEq, Zs, Zt, Zu, Zv]
      refine wr_111 (put2 _ b b5 9 (s) ([63]) (nm) _ (by simp [rdObj, hF5, lk]) (by (try simp only [List.length_append, List.length_cons, List.length_nil]); omega)) hpw0 hb5 hdw0_0 hdw0_1 fun Hw1 hpw1 hdw1_0 hdw1_1 hdw1_2 => ?_
      simp (disch := first | assumption | exact Ne.symm (by assumption) | omega) only [hF2, hF3, hF5, Int.reduceBEq, ↓ZD, ZU, ZR, Za, Zb, Zc, Zd, Ze, Zf, Zg, Zh, Zi, Zj, Zk, Zl, Zm, Zn, Zo, Zp, Zq, Zr, reduceIte, reduceCtorEq, Zs, Zt, Zu, Zv]
      refine ⟨Hw1, by simp +contextual, ?_⟩
      refine hpw1.cast ?_ ?_
      · simp [pt, har, nodeT, isTwo, signT, methT, ptL]
      · simp [okX, okL, har, nodeOk, litOk]
    · obtain ⟨x, y, rfl⟩ : ∃ x y, kids = [x, y] := by
        have := hr3 (by decide)
        rw [show kidsI 4 = 2 by decide] at this
        match kids, this with | [x, y], _ => exact ⟨x, y, rfl⟩
      obtain ⟨ba0, oa0, ea0, hla0⟩ := (h1 0 x rfl).ldn
      simp only [Nat.reduceMul, Nat.zero_mul, Nat.add_zero] at hla0
      obtain ⟨ba1, oa1, ea1, hla1⟩ := (h1 1 y rfl).ldn
      simp only [Nat.reduceMul, Nat.zero_mul, Nat.add_zero] at hla1
      subst ea0
      simp only [Option.some.injEq, Addr.mk.injEq, and_true] at ea1
      obtain ⟨rfl, rfl⟩ := ea1
      have har : arOk 4 2 names.length = true := by simpa using har
      rw [show isTwo 4 = true from rfl, if_pos rfl, show signT 4 = [32, 38, 38, 32] from rfl]
      simp only [wtL] at hw
      have hl2 : s.length + ([40] ++ (pt x ++ ([32, 38, 38, 32] ++ (pt y ++ [41])))).length ≤ 100000000000000 := by simpa [pt, har, nodeT, isTwo, signT, methT, ptL] using hl
      simp only [List.length_append, List.length_cons, List.length_nil] at hl2
      simp (disch := first | assumption | exact Ne.symm (by assumption) | omega) only [hF2, hF3, ↓hla0, ↓hla1, getV, Int.reduceBEq, ↓ZD, ZU, ZR, Za, Zb, Zc, Zd, Ze, Zf, Zg, Zh, Zi, Zj, Zk, Zl, Zm, Zn, Zo, Zp, Zq, Zr, reduceIte, reduceCtorEq, Zs, Zt, Zu, Zv]
      refine new_2 fun b5 he5_0 he5_1 hb5 hF5 => ?_
      simp (disch := first | assumption | exact Ne.symm (by assumption) | omega) only [hF2, hF3, ↓hla0, ↓hla1, hF5, Int.reduceBEq, ↓ZD, ZU, ZR, Za, Zb, Zc, Zd, Ze, Zf, Zg, Zh, Zi, Zj, Zk, Zl, Zm, Zn, Zo, Zp, Zq, Zr, reduceIte, reduceCtorEq, Zs, Zt, Zu, Zv]
      refine wr_111 (put1 _ b b5 9 (s) ([40]) _ (by simp [rdObj, hF5, lk]) (by (try simp only [List.length_append, List.length_cons, List.length_nil]); omega)) hp hb5 hb3 hb2 fun Hw0 hpw0 hdw0_0 hdw0_1 hdw0_2 => ?_
      simp (disch := first | assumption | exact Ne.symm (by assumption) | omega) only [hF2, hF3, ↓hla0, ↓hla1, hF5, Int.reduceBEq, ↓ZD, ZU, ZR, Za, Zb, Zc, Zd, Ze, Zf, Zg, Zh, Zi, Zj, Zk, Zl, Zm, Zn, Zo, Zp, Zq, Zr, reduceIte, reduceCtorEq, Zs, Zt, Zu, Zv]
      repeat (refine conj.of (by first | omega | decide) ?_; simp (disch := first | assumption | exact Ne.symm (by assumption) | omega) only [hF2, hF3, ↓hla0, ↓hla1, hF5, Int.reduceBEq, ↓ZD, ZU, ZR, Za, Zb, Zc, Zd, Ze, Zf, Zg, Zh, Zi, Zj, Zk, Zl, Zm, Zn, Zo, Zp, Zq, Zr, reduceIte, reduceCtorEq, Zs, Zt, Zu, Zv])
      refine wr_011 (ih 0 x rfl _ le_up b (s ++ [40]) (bad) (by (try simp only [List.length_append, List.length_cons, List.length_nil]); omega)) hpw0 hdw0_1 hdw0_2 fun Hw1 hpw1 hdw1_0 hdw1_1 => ?_
      simp (disch := first | assumption | exact Ne.symm (by assumption) | omega) only [hF2, hF3, ↓hla0, ↓hla1, hF5, Int.reduceBEq, ↓ZD, ZU, ZR, Za, Zb, Zc, Zd, Ze, Zf, Zg, Zh, Zi, Zj, Zk, Zl, Zm, Zn, Zo, Zp, Zq, Zr, reduceIte, reduceCtorEq, Zs, Zt, Zu, Zv]
      refine new_2 fun b6 he6_0 he6_1 hb6 hF6 => ?_
      simp (disch := first | assumption | exact Ne.symm (by assumption) | omega) only [hF2, hF3, ↓hla0, ↓hla1, hF6, Int.reduceBEq, ↓ZD, ZU, ZR, Za, Zb, Zc, Zd, Ze, Zf, Zg, Zh, Zi, Zj, Zk, Zl, Zm, Zn, Zo, Zp, Zq, Zr, reduceIte, reduceCtorEq, Zs, Zt, Zu, Zv]
      refine wr_111 (put1 _ b b6 9 (s ++ [40] ++ pt x) ([32, 38, 38, 32]) _ (by simp [rdObj, hF6, lk]) (by (try simp only [List.length_append, List.length_cons, List.length_nil]); omega)) hpw1 hb6 hdw1_0 hdw1_1 fun Hw2 hpw2 hdw2_0 hdw2_1 hdw2_2 => ?_
      simp (disch := first | assumption | exact Ne.symm (by assumption) | omega) only [hF2, hF3, ↓hla0, ↓hla1, hF6, Int.reduceBEq, ↓ZD, ZU, ZR, Za, Zb, Zc, Zd, Ze, Zf, Zg, Zh, Zi, Zj, Zk, Zl, Zm, Zn, Zo, Zp, Zq, Zr, reduceIte, reduceCtorEq, Zs, Zt, Zu, Zv]
      repeat (refine conj.of (by first | omega | decide) ?_; simp (disch := first | assumption | exact Ne.symm (by assumption) | omega) only [hF2, hF3, ↓hla0, ↓hla1, hF6, Int.reduceBEq, ↓ZD, ZU, ZR, Za, Zb, Zc, Zd, Ze, Zf, Zg, Zh, Zi, Zj, Zk, Zl, Zm, Zn, Zo, Zp, Zq, Zr, reduceIte, reduceCtorEq, Zs, Zt, Zu, Zv])
      refine wr_011 (ih 1 y rfl _ le_up b (s ++ [40] ++ pt x ++ [32, 38, 38, 32]) (bad || !okX x) (by (try simp only [List.length_append, List.length_cons, List.length_nil]); omega)) hpw2 hdw2_1 hdw2_2 fun Hw3 hpw3 hdw3_0 hdw3_1 => ?_
      simp (disch := first | assumption | exact Ne.symm (by assumption) | omega) only [hF2, hF3, ↓hla0, ↓hla1, hF6, Int.reduceBEq, ↓ZD, ZU, ZR, Za, Zb, Zc, Zd, Ze, Zf, Zg, Zh, Zi, Zj, Zk, Zl, Zm, Zn, Zo, Zp, Zq, Zr, reduceIte, reduceCtorEq, Zs, Zt, Zu, Zv]
      refine new_2 fun b7 he7_0 he7_1 hb7 hF7 => ?_
      simp (disch := first | assumption | exact Ne.symm (by assumption) | omega) only [hF2, hF3, ↓hla0, ↓hla1, hF7, Int.reduceBEq, ↓ZD, ZU, ZR, Za, Zb, Zc, Zd, Ze, Zf, Zg, Zh, Zi, Zj, Zk, Zl, Zm, Zn, Zo, Zp, Zq, Zr, reduceIte, reduceCtorEq, Zs, Zt, Zu, Zv]
      refine wr_111 (put1 _ b b7 9 (s ++ [40] ++ pt x ++ [32, 38, 38, 32] ++ pt y) ([41]) _ (by simp [rdObj, hF7, lk]) (by (try simp only [List.length_append, List.length_cons, List.length_nil]); omega)) hpw3 hb7 hdw3_0 hdw3_1 fun Hw4 hpw4 hdw4_0 hdw4_1 hdw4_2 => ?_
      simp (disch := first | assumption | exact Ne.symm (by assumption) | omega) only [hF2, hF3, ↓hla0, ↓hla1, hF7, Int.reduceBEq, ↓ZD, ZU, ZR, Za, Zb, Zc, Zd, Ze, Zf, Zg, Zh, Zi, Zj, Zk, Zl, Zm, Zn, Zo, Zp, Zq, Zr, reduceIte, reduceCtorEq, Zs, Zt, Zu, Zv]
      refine ⟨Hw4, by simp +contextual, ?_⟩
      refine hpw4.cast ?_ ?_
      · simp [pt, har, nodeT, isTwo, signT, methT, ptL]
      · simp [okX, okL, har, nodeOk, litOk]
        cases bad <;> cases okX x <;> cases okX y <;> rfl
    · obtain ⟨x, y, rfl⟩ : ∃ x y, kids = [x, y] := by
        have := hr3 (by decide)
        rw [show kidsI 5 = 2 by decide] at this
        match kids, this with | [x, y], _ => exact ⟨x, y, rfl⟩
      obtain ⟨ba0, oa0, ea0, hla0⟩ := (h1 0 x rfl).ldn
      simp only [Nat.reduceMul, Nat.zero_mul, Nat.add_zero] at hla0
      obtain ⟨ba1, oa1, ea1, hla1⟩ := (h1 1 y rfl).ldn
      simp only [Nat.reduceMul, Nat.zero_mul, Nat.add_zero] at hla1
      subst ea0
      simp only [Option.some.injEq, Addr.mk.injEq, and_true] at ea1
      obtain ⟨rfl, rfl⟩ := ea1
      have har : arOk 5 2 names.length = true := by simpa using har
      rw [show isTwo 5 = true from rfl, if_pos rfl, show signT 5 = [32, 124, 124, 32] from rfl]
      simp only [wtL] at hw
      have hl2 : s.length + ([40] ++ (pt x ++ ([32, 124, 124, 32] ++ (pt y ++ [41])))).length ≤ 100000000000000 := by simpa [pt, har, nodeT, isTwo, signT, methT, ptL] using hl
      simp only [List.length_append, List.length_cons, List.length_nil] at hl2
      simp (disch := first | assumption | exact Ne.symm (by assumption) | omega) only [hF2, hF3, ↓hla0, ↓hla1, getV, Int.reduceBEq, ↓ZD, ZU, ZR, Za, Zb, Zc, Zd, Ze, Zf, Zg, Zh, Zi, Zj, Zk, Zl, Zm, Zn, Zo, Zp, Zq, Zr, reduceIte, reduceCtorEq, Zs, Zt, Zu, Zv]
      refine new_2 fun b5 he5_0 he5_1 hb5 hF5 => ?_
      simp (disch := first | assumption | exact Ne.symm (by assumption) | omega) only [hF2, hF3, ↓hla0, ↓hla1, hF5, Int.reduceBEq, ↓ZD, ZU, ZR, Za, Zb, Zc, Zd, Ze, Zf, Zg, Zh, Zi, Zj, Zk, Zl, Zm, Zn, Zo, Zp, Zq, Zr, reduceIte, reduceCtorEq, Zs, Zt, Zu, Zv]
      refine wr_111 (put1 _ b b5 9 (s) ([40]) _ (by simp [rdObj, hF5, lk]) (by (try simp only [List.length_append, List.length_cons, List.length_nil]); omega)) hp hb5 hb3 hb2 fun Hw0 hpw0 hdw0_0 hdw0_1 hdw0_2 => ?_
      simp (disch := first | assumption | exact Ne.symm (by assumption) | omega) only [hF2, hF3, ↓hla0, ↓hla1, hF5, Int.reduceBEq, ↓ZD, ZU, ZR, Za, Zb, Zc, Zd, Ze, Zf, Zg, Zh, Zi, Zj, Zk, Zl, Zm, Zn, Zo, Zp, Zq, Zr, reduceIte, reduceCtorEq, Zs, Zt, Zu, Zv]
      repeat (refine conj.of (by first | omega | decide) ?_; simp (disch := first | assumption | exact Ne.symm (by assumption) | omega) only [hF2, hF3, ↓hla0, ↓hla1, hF5, Int.reduceBEq, ↓ZD, ZU, ZR, Za, Zb, Zc, Zd, Ze, Zf, Zg, Zh, Zi, Zj, Zk, Zl, Zm, Zn, Zo, Zp, Zq, Zr, reduceIte, reduceCtorEq, Zs, Zt, Zu, Zv])
      refine wr_011 (ih 0 x rfl _ le_up b (s ++ [40]) (bad) (by (try simp only [List.length_append, List.length_cons, List.length_nil]); omega)) hpw0 hdw0_1 hdw0_2 fun Hw1 hpw1 hdw1_0 hdw1_1 => ?_
      simp (disch := first | assumption | exact Ne.symm (by assumption) | omega) only [hF2, hF3, ↓hla0, ↓hla1, hF5, Int.reduceBEq, ↓ZD, ZU, ZR, Za, Zb, Zc, Zd, Ze, Zf, Zg, Zh, Zi, Zj, Zk, Zl, Zm, Zn, Zo, Zp, Zq, Zr, reduceIte, reduceCtorEq, Zs, Zt, Zu, Zv]
      refine new_2 fun b6 he6_0 he6_1 hb6 hF6 => ?_
      simp (disch := first | assumption | exact Ne.symm (by assumption) | omega) only [hF2, hF3, ↓hla0, ↓hla1, hF6, Int.reduceBEq, ↓ZD, ZU, ZR, Za, Zb, Zc, Zd, Ze, Zf, Zg, Zh, Zi, Zj, Zk, Zl, Zm, Zn, Zo, Zp, Zq, Zr, reduceIte, reduceCtorEq, Zs, Zt, Zu, Zv]
      refine wr_111 (put1 _ b b6 9 (s ++ [40] ++ pt x) ([32, 124, 124, 32]) _ (by simp [rdObj, hF6, lk]) (by (try simp only [List.length_append, List.length_cons, List.length_nil]); omega)) hpw1 hb6 hdw1_0 hdw1_1 fun Hw2 hpw2 hdw2_0 hdw2_1 hdw2_2 => ?_
      simp (disch := first | assumption | exact Ne.symm (by assumption) | omega) only [hF2, hF3, ↓hla0, ↓hla1, hF6, Int.reduceBEq, ↓ZD, ZU, ZR, Za, Zb, Zc, Zd, Ze, Zf, Zg, Zh, Zi, Zj, Zk, Zl, Zm, Zn, Zo, Zp, Zq, Zr, reduceIte, reduceCtorEq, Zs, Zt, Zu, Zv]
      repeat (refine conj.of (by first | omega | decide) ?_; simp (disch := first | assumption | exact Ne.symm (by assumption) | omega) only [hF2, hF3, ↓hla0, ↓hla1, hF6, Int.reduceBEq, ↓ZD, ZU, ZR, Za, Zb, Zc, Zd, Ze, Zf, Zg, Zh, Zi, Zj, Zk, Zl, Zm, Zn, Zo, Zp, Zq, Zr, reduceIte, reduceCtorEq, Zs, Zt, Zu, Zv])
      refine wr_011 (ih 1 y rfl _ le_up b (s ++ [40] ++ pt x ++ [32, 124, 124, 32]) (bad || !okX x) (by (try simp only [List.length_append, List.length_cons, List.length_nil]); omega)) hpw2 hdw2_1 hdw2_2 fun Hw3 hpw3 hdw3_0 hdw3_1 => ?_
      simp (disch := first | assumption | exact Ne.symm (by assumption) | omega) only [hF2, hF3, ↓hla0, ↓hla1, hF6, Int.reduceBEq, ↓ZD, ZU, ZR, Za, Zb, Zc, Zd, Ze, Zf, Zg, Zh, Zi, Zj, Zk, Zl, Zm, Zn, Zo, Zp, Zq, Zr, reduceIte, reduceCtorEq, Zs, Zt, Zu, Zv]
      refine new_2 fun b7 he7_0 he7_1 hb7 hF7 => ?_
      simp (disch := first | assumption | exact Ne.symm (by assumption) | omega) only [hF2, hF3, ↓hla0, ↓hla1, hF7, Int.reduceBEq, ↓ZD, ZU, ZR, Za, Zb, Zc, Zd, Ze, Zf, Zg, Zh, Zi, Zj, Zk, Zl, Zm, Zn, Zo, Zp, Zq, Zr, reduceIte, reduceCtorEq, Zs, Zt, Zu, Zv]
      refine wr_111 (put1 _ b b7 9 (s ++ [40] ++ pt x ++ [32, 124, 124, 32] ++ pt y) ([41]) _ (by simp [rdObj, hF7, lk]) (by (try simp only [List.length_append, List.length_cons, List.length_nil]); omega)) hpw3 hb7 hdw3_0 hdw3_1 fun Hw4 hpw4 hdw4_0 hdw4_1 hdw4_2 => ?_
      simp (disch := first | assumption | exact Ne.symm (by assumption) | omega) only [hF2, hF3, ↓hla0, ↓hla1, hF7, Int.reduceBEq, ↓ZD, ZU, ZR, Za, Zb, Zc, Zd, Ze, Zf, Zg, Zh, Zi, Zj, Zk, Zl, Zm, Zn, Zo, Zp, Zq, Zr, reduceIte, reduceCtorEq, Zs, Zt, Zu, Zv]
      refine ⟨Hw4, by simp +contextual, ?_⟩
      refine hpw4.cast ?_ ?_
      · simp [pt, har, nodeT, isTwo, signT, methT, ptL]
      · simp [okX, okL, har, nodeOk, litOk]
        cases bad <;> cases okX x <;> cases okX y <;> rfl
    · obtain ⟨x, rfl⟩ : ∃ x, kids = [x] := by
        have := hr3 (by decide)
        rw [show kidsI 6 = 1 by decide] at this
        match kids, this with | [x], _ => exact ⟨x, rfl⟩
      obtain ⟨ba0, oa0, ea0, hla0⟩ := (h1 0 x rfl).ldn
      simp only [Nat.reduceMul, Nat.zero_mul, Nat.add_zero] at hla0
      subst ea0
      have har : arOk 6 1 names.length = true := by simpa using har
      rw [show isTwo 6 = false from rfl, if_neg (by decide)]
      simp only [wtL] at hw
      have hl2 : s.length + ([33] ++ pt x).length ≤ 100000000000000 := by simpa [pt, har, nodeT, isTwo, signT, methT, ptL] using hl
      simp only [List.length_append, List.length_cons, List.length_nil] at hl2
      simp (disch := first | assumption | exact Ne.symm (by assumption) | omega) only [hF2, hF3, ↓hla0, getV, Int.reduceBEq, ↓ZD, ZU, ZR, Za, Zb, Zc, Zd, Ze, Zf, Zg, Zh, Zi, Zj, Zk, Zl, Zm, Zn, Zo, Zp, Zq, Zr, reduceIte, reduceCtorEq, Zs, Zt, Zu, Zv]
      refine EfL.mkMap fun b5 hb5 hF5 => ?_
      simp only [List.forall_mem_cons] at hb5
      obtain ⟨he5_0, he5_1, hb5⟩ := hb5
      have hu5 : ∀ o, upd H0 b5 o = H0 := fun o => upd_new hb5
      simp (disch := first | assumption | exact Ne.symm (by assumption) | omega) only [hF2, hF3, ↓hla0, hF5, hu5, Int.reduceBEq, ↓ZD, ZU, ZR, Za, Zb, Zc, Zd, Ze, Zf, Zg, Zh, Zi, Zj, Zk, Zl, Zm, Zn, Zo, Zp, Zq, Zr, reduceIte, reduceCtorEq, Zs, Zt, Zu, Zv]
      refine EfL.ins (es := #[]) (c := 0) hF5 (by simp [lk]) rfl ?_
      simp (disch := first | assumption | exact Ne.symm (by assumption) | omega) only [hF2, hF3, ↓hla0, hF5, hu5, Int.reduceBEq, ↓ZD, ZU, ZR, Za, Zb, Zc, Zd, Ze, Zf, Zg, Zh, Zi, Zj, Zk, Zl, Zm, Zn, Zo, Zp, Zq, Zr, reduceIte, reduceCtorEq, Zs, Zt, Zu, Zv]
      refine EfL.ins (es := #[{ key := .int .i64 6, val := .string (bs [33]), born := 0 }]) (c := 1) hF5 (by simp [lk]) rfl ?_
      simp (disch := first | assumption | exact Ne.symm (by assumption) | omega) only [hF2, hF3, ↓hla0, hF5, hu5, Int.reduceBEq, ↓ZD, ZU, ZR, Za, Zb, Zc, Zd, Ze, Zf, Zg, Zh, Zi, Zj, Zk, Zl, Zm, Zn, Zo, Zp, Zq, Zr, reduceIte, reduceCtorEq, Zs, Zt, Zu, Zv]
      refine EfL.get (es := [{ key := .int .i64 6, val := .string (bs [33]), born := 0 }, { key := .int .i64 14, val := .string (bs [45]), born := 1 }]) (by simp [mapEs, rdObj, hF5, lk]) rfl ?_
      simp (disch := first | assumption | exact Ne.symm (by assumption) | omega) only [hF2, hF3, ↓hla0, hF5, hu5, getV, Int.reduceBEq, ↓ZD, ZU, ZR, Za, Zb, Zc, Zd, Ze, Zf, Zg, Zh, Zi, Zj, Zk, Zl, Zm, Zn, Zo, Zp, Zq, Zr, reduceIte, reduceCtorEq, Zs, Zt, Zu, Zv]
      refine new_3 fun b6 he6_0 he6_1 he6_2 hb6 hF6 => ?_
      simp (disch := first | assumption | exact Ne.symm (by assumption) | omega) only [hF2, hF3, ↓hla0, hF6, Int.reduceBEq, ↓ZD, ZU, ZR, Za, Zb, Zc, Zd, Ze, Zf, Zg, Zh, Zi, Zj, Zk, Zl, Zm, Zn, Zo, Zp, Zq, Zr, reduceIte, reduceCtorEq, Zs, Zt, Zu, Zv]
      refine wr_1011 (put1 _ b b6 9 (s) ([33]) _ (by simp [rdObj, hF6, lk]) (by (try simp only [List.length_append, List.length_cons, List.length_nil]); omega)) hp hb6 hb3 hb2 fun Hw0 hpw0 hdw0_0 hdw0_1 hdw0_2 => ?_
      simp (disch := first | assumption | exact Ne.symm (by assumption) | omega) only [hF2, hF3, ↓hla0, hF6, Int.reduceBEq, ↓ZD, ZU, ZR, Za, Zb, Zc, Zd, Ze, Zf, Zg, Zh, Zi, Zj, Zk, Zl, Zm, Zn, Zo, Zp, Zq, Zr, reduceIte, reduceCtorEq, Zs, Zt, Zu, Zv]
      repeat (refine conj.of (by first | omega | decide) ?_; simp (disch := first | assumption | exact Ne.symm (by assumption) | omega) only [hF2, hF3, ↓hla0, hF6, Int.reduceBEq, ↓ZD, ZU, ZR, Za, Zb, Zc, Zd, Ze, Zf, Zg, Zh, Zi, Zj, Zk, Zl, Zm, Zn, Zo, Zp, Zq, Zr, reduceIte, reduceCtorEq, Zs, Zt, Zu, Zv])
      refine wr_011 (ih 0 x rfl _ le_up b (s ++ [33]) (bad) (by (try simp only [List.length_append, List.length_cons, List.length_nil]); omega)) hpw0 hdw0_1 hdw0_2 fun Hw1 hpw1 hdw1_0 hdw1_1 => ?_
      simp (disch := first | assumption | exact Ne.symm (by assumption) | omega) only [hF2, hF3, ↓hla0, hF6, Int.reduceBEq, ↓ZD, ZU, ZR, Za, Zb, Zc, Zd, Ze, Zf, Zg, Zh, Zi, Zj, Zk, Zl, Zm, Zn, Zo, Zp, Zq, Zr, reduceIte, reduceCtorEq, Zs, Zt, Zu, Zv]
      refine ⟨Hw1, by simp +contextual, ?_⟩
      refine hpw1.cast ?_ ?_
      · simp [pt, har, nodeT, isTwo, signT, methT, ptL]
      · simp [okX, okL, har, nodeOk, litOk]
    · obtain ⟨x, y, z, rfl⟩ : ∃ x y z, kids = [x, y, z] := by
        have := hr3 (by decide)
        rw [show kidsI 7 = 3 by decide] at this
        match kids, this with | [x, y, z], _ => exact ⟨x, y, z, rfl⟩
      obtain ⟨ba0, oa0, ea0, hla0⟩ := (h1 0 x rfl).ldn
      simp only [Nat.reduceMul, Nat.zero_mul, Nat.add_zero] at hla0
      obtain ⟨ba1, oa1, ea1, hla1⟩ := (h1 1 y rfl).ldn
      simp only [Nat.reduceMul, Nat.zero_mul, Nat.add_zero] at hla1
      obtain ⟨ba2, oa2, ea2, hla2⟩ := (h1 2 z rfl).ldn
      simp only [Nat.reduceMul, Nat.zero_mul, Nat.add_zero] at hla2
      subst ea0
      simp only [Option.some.injEq, Addr.mk.injEq, and_true] at ea1
      obtain ⟨rfl, rfl⟩ := ea1
      simp only [Option.some.injEq, Addr.mk.injEq, and_true] at ea2
      obtain ⟨rfl, rfl⟩ := ea2
      have har : arOk 7 3 names.length = true := by simpa using har
      rw [show isTwo 7 = false from rfl, if_neg (by decide)]
      simp only [wtL] at hw
      have hl2 : s.length + ([40, 105, 102, 32] ++ (pt x ++ ([32, 116, 104, 101, 110, 32] ++ (pt y ++ ([32, 101, 108, 115, 101, 32] ++ (pt z ++ [41])))))).length ≤ 100000000000000 := by simpa [pt, har, nodeT, isTwo, signT, methT, ptL] using hl
      simp only [List.length_append, List.length_cons, List.length_nil] at hl2
      simp (disch := first | assumption | exact Ne.symm (by assumption) | omega) only [hF2, hF3, ↓hla0, ↓hla1, ↓hla2, getV, Int.reduceBEq, ↓ZD, ZU, ZR, Za, Zb, Zc, Zd, Ze, Zf, Zg, Zh, Zi, Zj, Zk, Zl, Zm, Zn, Zo, Zp, Zq, Zr, reduceIte, reduceCtorEq, Zs, Zt, Zu, Zv]
      refine new_2 fun b5 he5_0 he5_1 hb5 hF5 => ?_
      simp (disch := first | assumption | exact Ne.symm (by assumption) | omega) only [hF2, hF3, ↓hla0, ↓hla1, ↓hla2, hF5, Int.reduceBEq, ↓ZD, ZU, ZR, Za, Zb, Zc, Zd, Ze, Zf, Zg, Zh, Zi, Zj, Zk, Zl, Zm, Zn, Zo, Zp, Zq, Zr, reduceIte, reduceCtorEq, Zs, Zt, Zu, Zv]
      refine LoopL.inv (α := Int × Hp) (fun u => 0 ≤ u.1 ∧ u.1 ≤ 3 ∧ Pst F b (s ++ ifT x y z u.1) (bad || !ifB x y z u.1) u.2 ∧ (∀ e ∈ u.2, e.1 ≠ b5) ∧ (∀ e ∈ u.2, e.1 ≠ b3) ∧ ∀ e ∈ u.2, e.1 ≠ b2)
        (fun u => [(2, some (.pointer (some ⟨b2, 0, none⟩))), (3, some (.pointer (some ⟨b3, 0, none⟩))), (145, some (.slice (some ⟨b5, 0, none⟩) 3 3)), (146, some (.int .i64 3)), (147, some (.int .i64 u.1))])
        (fun u => [(b5, .cells #[.string (bs [40, 105, 102, 32]), .string (bs [32, 116, 104, 101, 110, 32]), .string (bs [32, 101, 108, 115, 101, 32])] 9 (0, 0)), (b3, .cells #[Value.int IntKind.i64 7, Value.int IntKind.i64 v.kind, Value.bool v.bo, Value.int IntKind.i64 v.n, Value.string (bs v.tx), Value.string (bs v.ty), Value.string (bs v.id), .slice d1 d2 d3, .slice d4 d5 d6, Value.string (bs nm), Value.slice (some ⟨ba0, oa0, none⟩) 3 c1, Value.slice an names.length cn] 30 (0, 0)), (b2, .cells #[.pointer (some ⟨b, 0, none⟩)] 51 (0, 0))] ++ u.2) (fun u => (3 - u.1).toNat) (0, H0) ⟨(by decide : (0 : Int) ≤ 0), (by decide : (0 : Int) ≤ 3), by simpa [ifT, ifB] using hp, hb5, hb3, hb2⟩ (by (simp only [Le_nil, Le_cons]; simp (disch := first | assumption | exact Ne.symm (by assumption) | omega) only [↓ZD, ZU, ZR, Za, Zb, Zc, Zd, Ze, Zf, Zg, Zh, Zi, Zj, Zk, Zl, Zm, Zn, Zo, Zp, Zq, Zr, reduceIte, reduceCtorEq, Zs, Zt, Zu, Zv]; try trivial)) ?_ ?_
      · exact ⟨by simp [lk], by simp [lk, he5_0, he5_1, hb23, Ne.symm he5_0], by simp [lk, he5_0, he5_1, hb23, Ne.symm he5_1, Ne.symm hb23], HLe_pre (Hr := [(b5, .cells #[.string (bs [40, 105, 102, 32]), .string (bs [32, 116, 104, 101, 110, 32]), .string (bs [32, 101, 108, 115, 101, 32])] 9 (0, 0)), (b3, .cells #[Value.int IntKind.i64 7, Value.int IntKind.i64 v.kind, Value.bool v.bo, Value.int IntKind.i64 v.n, Value.string (bs v.tx), Value.string (bs v.ty), Value.string (bs v.id), .slice d1 d2 d3, .slice d4 d5 d6, Value.string (bs nm), Value.slice (some ⟨ba0, oa0, none⟩) 3 c1, Value.slice an names.length cn] 30 (0, 0)), (b2, .cells #[.pointer (some ⟨b, 0, none⟩)] 51 (0, 0))]) (A := H0) hp.lk fun e he => by simp only [List.forall_mem_cons, List.not_mem_nil, false_implies, implies_true, and_true]; exact ⟨hb5 e he, hb3 e he, hb2 e he⟩⟩
      rintro ⟨i, H⟩ ⟨hi0, hi3, hpi, hd5, hd3, hd2⟩
      simp only at hi0 hi3 hpi hd5 hd3 hd2 ⊢
      obtain rfl | rfl | rfl | rfl : i = 0 ∨ i = 1 ∨ i = 2 ∨ i = 3 := by omega
      · have hil : (ifT x y z 0).length = 0 := by simp [ifT]; try omega
        simp (disch := first | assumption | exact Ne.symm (by assumption) | omega) only [hF2, hF3, ↓hla0, ↓hla1, ↓hla2, hF5, Int.reduceBEq, ↓ZD, ZU, ZR, Za, Zb, Zc, Zd, Ze, Zf, Zg, Zh, Zi, Zj, Zk, Zl, Zm, Zn, Zo, Zp, Zq, Zr, reduceIte, reduceCtorEq, Zs, Zt, Zu, Zv]
        repeat (refine conj.of (by first | omega | decide) ?_; simp (disch := first | assumption | exact Ne.symm (by assumption) | omega) only [hF2, hF3, ↓hla0, ↓hla1, ↓hla2, hF5, Int.reduceBEq, ↓ZD, ZU, ZR, Za, Zb, Zc, Zd, Ze, Zf, Zg, Zh, Zi, Zj, Zk, Zl, Zm, Zn, Zo, Zp, Zq, Zr, reduceIte, reduceCtorEq, Zs, Zt, Zu, Zv])
        refine new_3 fun b6 he6_0 he6_1 he6_2 hb6 hF6 => ?_
        simp (disch := first | assumption | exact Ne.symm (by assumption) | omega) only [hF2, hF3, ↓hla0, ↓hla1, ↓hla2, hF6, Int.reduceBEq, ↓ZD, ZU, ZR, Za, Zb, Zc, Zd, Ze, Zf, Zg, Zh, Zi, Zj, Zk, Zl, Zm, Zn, Zo, Zp, Zq, Zr, reduceIte, reduceCtorEq, Zs, Zt, Zu, Zv]
        refine wr_1111 (put1 _ b b6 9 (s ++ ifT x y z 0) ([40, 105, 102, 32]) _ (by simp [rdObj, hF6, lk]) (by (try simp only [List.length_append, List.length_cons, List.length_nil]); omega)) hpi hb6 hd5 hd3 hd2 fun Hw0 hpw0 hdw0_0 hdw0_1 hdw0_2 hdw0_3 => ?_
        simp (disch := first | assumption | exact Ne.symm (by assumption) | omega) only [hF2, hF3, ↓hla0, ↓hla1, ↓hla2, hF6, Int.reduceBEq, ↓ZD, ZU, ZR, Za, Zb, Zc, Zd, Ze, Zf, Zg, Zh, Zi, Zj, Zk, Zl, Zm, Zn, Zo, Zp, Zq, Zr, reduceIte, reduceCtorEq, Zs, Zt, Zu, Zv]
        repeat (refine conj.of (by first | omega | decide) ?_; simp (disch := first | assumption | exact Ne.symm (by assumption) | omega) only [hF2, hF3, ↓hla0, ↓hla1, ↓hla2, hF6, Int.reduceBEq, ↓ZD, ZU, ZR, Za, Zb, Zc, Zd, Ze, Zf, Zg, Zh, Zi, Zj, Zk, Zl, Zm, Zn, Zo, Zp, Zq, Zr, reduceIte, reduceCtorEq, Zs, Zt, Zu, Zv])
        refine wr_0111 (ih 0 x rfl _ le_up b (s ++ ifT x y z 0 ++ [40, 105, 102, 32]) (bad || !ifB x y z 0) (by (try simp only [List.length_append, List.length_cons, List.length_nil]); omega)) hpw0 hdw0_1 hdw0_2 hdw0_3 fun Hw1 hpw1 hdw1_0 hdw1_1 hdw1_2 => ?_
        simp (disch := first | assumption | exact Ne.symm (by assumption) | omega) only [hF2, hF3, ↓hla0, ↓hla1, ↓hla2, hF6, Int.reduceBEq, ↓ZD, ZU, ZR, Za, Zb, Zc, Zd, Ze, Zf, Zg, Zh, Zi, Zj, Zk, Zl, Zm, Zn, Zo, Zp, Zq, Zr, reduceIte, reduceCtorEq, Zs, Zt, Zu, Zv]
        refine invK.on (1, Hw1) ⟨(by decide : (0 : Int) ≤ 1), (by decide : (1 : Int) ≤ 3), hpw1.cast (by simp [ifT]) (by simp [ifB]; try (cases bad <;> cases okX x <;> cases okX y <;> cases okX z <;> rfl)), hdw1_0, hdw1_1, hdw1_2⟩ (by show (3 - (1 : Int)).toNat < (3 - (0 : Int)).toNat; decide) ?_ ?_
        · simp only [Le_nil, Le_cons]; simp (disch := first | assumption | exact Ne.symm (by assumption) | omega) only [↓ZD, ZU, ZR, Za, Zb, Zc, Zd, Ze, Zf, Zg, Zh, Zi, Zj, Zk, Zl, Zm, Zn, Zo, Zp, Zq, Zr, reduceIte, reduceCtorEq, Zs, Zt, Zu, Zv]; try trivial
        · exact ⟨by simp [lk], by simp [lk, he5_0, he5_1, hb23, Ne.symm he5_0], by simp [lk, he5_0, he5_1, hb23, Ne.symm he5_1, Ne.symm hb23], HLe_pre (Hr := [(b5, .cells #[.string (bs [40, 105, 102, 32]), .string (bs [32, 116, 104, 101, 110, 32]), .string (bs [32, 101, 108, 115, 101, 32])] 9 (0, 0)), (b3, .cells #[Value.int IntKind.i64 7, Value.int IntKind.i64 v.kind, Value.bool v.bo, Value.int IntKind.i64 v.n, Value.string (bs v.tx), Value.string (bs v.ty), Value.string (bs v.id), .slice d1 d2 d3, .slice d4 d5 d6, Value.string (bs nm), Value.slice (some ⟨ba0, oa0, none⟩) 3 c1, Value.slice an names.length cn] 30 (0, 0)), (b2, .cells #[.pointer (some ⟨b, 0, none⟩)] 51 (0, 0))]) (A := Hw1) hpw1.lk fun e he => by simp only [List.forall_mem_cons, List.not_mem_nil, false_implies, implies_true, and_true]; exact ⟨hdw1_0 e he, hdw1_1 e he, hdw1_2 e he⟩⟩
      · have hil : (ifT x y z 1).length = 4 + (pt x).length := by simp [ifT]; try omega
        simp (disch := first | assumption | exact Ne.symm (by assumption) | omega) only [hF2, hF3, ↓hla0, ↓hla1, ↓hla2, hF5, Int.reduceBEq, ↓ZD, ZU, ZR, Za, Zb, Zc, Zd, Ze, Zf, Zg, Zh, Zi, Zj, Zk, Zl, Zm, Zn, Zo, Zp, Zq, Zr, reduceIte, reduceCtorEq, Zs, Zt, Zu, Zv]
        repeat (refine conj.of (by first | omega | decide) ?_; simp (disch := first | assumption | exact Ne.symm (by assumption) | omega) only [hF2, hF3, ↓hla0, ↓hla1, ↓hla2, hF5, Int.reduceBEq, ↓ZD, ZU, ZR, Za, Zb, Zc, Zd, Ze, Zf, Zg, Zh, Zi, Zj, Zk, Zl, Zm, Zn, Zo, Zp, Zq, Zr, reduceIte, reduceCtorEq, Zs, Zt, Zu, Zv])
        refine new_3 fun b6 he6_0 he6_1 he6_2 hb6 hF6 => ?_
        simp (disch := first | assumption | exact Ne.symm (by assumption) | omega) only [hF2, hF3, ↓hla0, ↓hla1, ↓hla2, hF6, Int.reduceBEq, ↓ZD, ZU, ZR, Za, Zb, Zc, Zd, Ze, Zf, Zg, Zh, Zi, Zj, Zk, Zl, Zm, Zn, Zo, Zp, Zq, Zr, reduceIte, reduceCtorEq, Zs, Zt, Zu, Zv]
        refine wr_1111 (put1 _ b b6 9 (s ++ ifT x y z 1) ([32, 116, 104, 101, 110, 32]) _ (by simp [rdObj, hF6, lk]) (by (try simp only [List.length_append, List.length_cons, List.length_nil]); omega)) hpi hb6 hd5 hd3 hd2 fun Hw0 hpw0 hdw0_0 hdw0_1 hdw0_2 hdw0_3 => ?_
        simp (disch := first | assumption | exact Ne.symm (by assumption) | omega) only [hF2, hF3, ↓hla0, ↓hla1, ↓hla2, hF6, Int.reduceBEq, ↓ZD, ZU, ZR, Za, Zb, Zc, Zd, Ze, Zf, Zg, Zh, Zi, Zj, Zk, Zl, Zm, Zn, Zo, Zp, Zq, Zr, reduceIte, reduceCtorEq, Zs, Zt, Zu, Zv]
        repeat (refine conj.of (by first | omega | decide) ?_; simp (disch := first | assumption | exact Ne.symm (by assumption) | omega) only [hF2, hF3, ↓hla0, ↓hla1, ↓hla2, hF6, Int.reduceBEq, ↓ZD, ZU, ZR, Za, Zb, Zc, Zd, Ze, Zf, Zg, Zh, Zi, Zj, Zk, Zl, Zm, Zn, Zo, Zp, Zq, Zr, reduceIte, reduceCtorEq, Zs, Zt, Zu, Zv])
        refine wr_0111 (ih 1 y rfl _ le_up b (s ++ ifT x y z 1 ++ [32, 116, 104, 101, 110, 32]) (bad || !ifB x y z 1) (by (try simp only [List.length_append, List.length_cons, List.length_nil]); omega)) hpw0 hdw0_1 hdw0_2 hdw0_3 fun Hw1 hpw1 hdw1_0 hdw1_1 hdw1_2 => ?_
        simp (disch := first | assumption | exact Ne.symm (by assumption) | omega) only [hF2, hF3, ↓hla0, ↓hla1, ↓hla2, hF6, Int.reduceBEq, ↓ZD, ZU, ZR, Za, Zb, Zc, Zd, Ze, Zf, Zg, Zh, Zi, Zj, Zk, Zl, Zm, Zn, Zo, Zp, Zq, Zr, reduceIte, reduceCtorEq, Zs, Zt, Zu, Zv]
        refine invK.on (2, Hw1) ⟨(by decide : (0 : Int) ≤ 2), (by decide : (2 : Int) ≤ 3), hpw1.cast (by simp [ifT]) (by simp [ifB]; try (cases bad <;> cases okX x <;> cases okX y <;> cases okX z <;> rfl)), hdw1_0, hdw1_1, hdw1_2⟩ (by show (3 - (2 : Int)).toNat < (3 - (1 : Int)).toNat; decide) ?_ ?_
        · simp only [Le_nil, Le_cons]; simp (disch := first | assumption | exact Ne.symm (by assumption) | omega) only [↓ZD, ZU, ZR, Za, Zb, Zc, Zd, Ze, Zf, Zg, Zh, Zi, Zj, Zk, Zl, Zm, Zn, Zo, Zp, Zq, Zr, reduceIte, reduceCtorEq, Zs, Zt, Zu, Zv]; try trivial
        · exact ⟨by simp [lk], by simp [lk, he5_0, he5_1, hb23, Ne.symm he5_0], by simp [lk, he5_0, he5_1, hb23, Ne.symm he5_1, Ne.symm hb23], HLe_pre (Hr := [(b5, .cells #[.string (bs [40, 105, 102, 32]), .string (bs [32, 116, 104, 101, 110, 32]), .string (bs [32, 101, 108, 115, 101, 32])] 9 (0, 0)), (b3, .cells #[Value.int IntKind.i64 7, Value.int IntKind.i64 v.kind, Value.bool v.bo, Value.int IntKind.i64 v.n, Value.string (bs v.tx), Value.string (bs v.ty), Value.string (bs v.id), .slice d1 d2 d3, .slice d4 d5 d6, Value.string (bs nm), Value.slice (some ⟨ba0, oa0, none⟩) 3 c1, Value.slice an names.length cn] 30 (0, 0)), (b2, .cells #[.pointer (some ⟨b, 0, none⟩)] 51 (0, 0))]) (A := Hw1) hpw1.lk fun e he => by simp only [List.forall_mem_cons, List.not_mem_nil, false_implies, implies_true, and_true]; exact ⟨hdw1_0 e he, hdw1_1 e he, hdw1_2 e he⟩⟩
      · have hil : (ifT x y z 2).length = 4 + (pt x).length + (6 + (pt y).length) := by simp [ifT]; try omega
        simp (disch := first | assumption | exact Ne.symm (by assumption) | omega) only [hF2, hF3, ↓hla0, ↓hla1, ↓hla2, hF5, Int.reduceBEq, ↓ZD, ZU, ZR, Za, Zb, Zc, Zd, Ze, Zf, Zg, Zh, Zi, Zj, Zk, Zl, Zm, Zn, Zo, Zp, Zq, Zr, reduceIte, reduceCtorEq, Zs, Zt, Zu, Zv]
        repeat (refine conj.of (by first | omega | decide) ?_; simp (disch := first | assumption | exact Ne.symm (by assumption) | omega) only [hF2, hF3, ↓hla0, ↓hla1, ↓hla2, hF5, Int.reduceBEq, ↓ZD, ZU, ZR, Za, Zb, Zc, Zd, Ze, Zf, Zg, Zh, Zi, Zj, Zk, Zl, Zm, Zn, Zo, Zp, Zq, Zr, reduceIte, reduceCtorEq, Zs, Zt, Zu, Zv])
        refine new_3 fun b6 he6_0 he6_1 he6_2 hb6 hF6 => ?_
        simp (disch := first | assumption | exact Ne.symm (by assumption) | omega) only [hF2, hF3, ↓hla0, ↓hla1, ↓hla2, hF6, Int.reduceBEq, ↓ZD, ZU, ZR, Za, Zb, Zc, Zd, Ze, Zf, Zg, Zh, Zi, Zj, Zk, Zl, Zm, Zn, Zo, Zp, Zq, Zr, reduceIte, reduceCtorEq, Zs, Zt, Zu, Zv]
        refine wr_1111 (put1 _ b b6 9 (s ++ ifT x y z 2) ([32, 101, 108, 115, 101, 32]) _ (by simp [rdObj, hF6, lk]) (by (try simp only [List.length_append, List.length_cons, List.length_nil]); omega)) hpi hb6 hd5 hd3 hd2 fun Hw0 hpw0 hdw0_0 hdw0_1 hdw0_2 hdw0_3 => ?_
        simp (disch := first | assumption | exact Ne.symm (by assumption) | omega) only [hF2, hF3, ↓hla0, ↓hla1, ↓hla2, hF6, Int.reduceBEq, ↓ZD, ZU, ZR, Za, Zb, Zc, Zd, Ze, Zf, Zg, Zh, Zi, Zj, Zk, Zl, Zm, Zn, Zo, Zp, Zq, Zr, reduceIte, reduceCtorEq, Zs, Zt, Zu, Zv]
        repeat (refine conj.of (by first | omega | decide) ?_; simp (disch := first | assumption | exact Ne.symm (by assumption) | omega) only [hF2, hF3, ↓hla0, ↓hla1, ↓hla2, hF6, Int.reduceBEq, ↓ZD, ZU, ZR, Za, Zb, Zc, Zd, Ze, Zf, Zg, Zh, Zi, Zj, Zk, Zl, Zm, Zn, Zo, Zp, Zq, Zr, reduceIte, reduceCtorEq, Zs, Zt, Zu, Zv])
        refine wr_0111 (ih 2 z rfl _ le_up b (s ++ ifT x y z 2 ++ [32, 101, 108, 115, 101, 32]) (bad || !ifB x y z 2) (by (try simp only [List.length_append, List.length_cons, List.length_nil]); omega)) hpw0 hdw0_1 hdw0_2 hdw0_3 fun Hw1 hpw1 hdw1_0 hdw1_1 hdw1_2 => ?_
        simp (disch := first | assumption | exact Ne.symm (by assumption) | omega) only [hF2, hF3, ↓hla0, ↓hla1, ↓hla2, hF6, Int.reduceBEq, ↓ZD, ZU, ZR, Za, Zb, Zc, Zd, Ze, Zf, Zg, Zh, Zi, Zj, Zk, Zl, Zm, Zn, Zo, Zp, Zq, Zr, reduceIte, reduceCtorEq, Zs, Zt, Zu, Zv]
        refine invK.on (3, Hw1) ⟨(by decide : (0 : Int) ≤ 3), (by decide : (3 : Int) ≤ 3), hpw1.cast (by simp [ifT]) (by simp [ifB]; try (cases bad <;> cases okX x <;> cases okX y <;> cases okX z <;> rfl)), hdw1_0, hdw1_1, hdw1_2⟩ (by show (3 - (3 : Int)).toNat < (3 - (2 : Int)).toNat; decide) ?_ ?_
        · simp only [Le_nil, Le_cons]; simp (disch := first | assumption | exact Ne.symm (by assumption) | omega) only [↓ZD, ZU, ZR, Za, Zb, Zc, Zd, Ze, Zf, Zg, Zh, Zi, Zj, Zk, Zl, Zm, Zn, Zo, Zp, Zq, Zr, reduceIte, reduceCtorEq, Zs, Zt, Zu, Zv]; try trivial
        · exact ⟨by simp [lk], by simp [lk, he5_0, he5_1, hb23, Ne.symm he5_0], by simp [lk, he5_0, he5_1, hb23, Ne.symm he5_1, Ne.symm hb23], HLe_pre (Hr := [(b5, .cells #[.string (bs [40, 105, 102, 32]), .string (bs [32, 116, 104, 101, 110, 32]), .string (bs [32, 101, 108, 115, 101, 32])] 9 (0, 0)), (b3, .cells #[Value.int IntKind.i64 7, Value.int IntKind.i64 v.kind, Value.bool v.bo, Value.int IntKind.i64 v.n, Value.string (bs v.tx), Value.string (bs v.ty), Value.string (bs v.id), .slice d1 d2 d3, .slice d4 d5 d6, Value.string (bs nm), Value.slice (some ⟨ba0, oa0, none⟩) 3 c1, Value.slice an names.length cn] 30 (0, 0)), (b2, .cells #[.pointer (some ⟨b, 0, none⟩)] 51 (0, 0))]) (A := Hw1) hpw1.lk fun e he => by simp only [List.forall_mem_cons, List.not_mem_nil, false_implies, implies_true, and_true]; exact ⟨hdw1_0 e he, hdw1_1 e he, hdw1_2 e he⟩⟩
      · have hil : (ifT x y z 3).length = 4 + (pt x).length + (6 + (pt y).length) + (6 + (pt z).length) := by simp [ifT]; try omega
        simp (disch := first | assumption | exact Ne.symm (by assumption) | omega) only [hF2, hF3, ↓hla0, ↓hla1, ↓hla2, hF5, Int.reduceBEq, ↓ZD, ZU, ZR, Za, Zb, Zc, Zd, Ze, Zf, Zg, Zh, Zi, Zj, Zk, Zl, Zm, Zn, Zo, Zp, Zq, Zr, reduceIte, reduceCtorEq, Zs, Zt, Zu, Zv]
        refine new_3 fun b6 he6_0 he6_1 he6_2 hb6 hF6 => ?_
        simp (disch := first | assumption | exact Ne.symm (by assumption) | omega) only [hF2, hF3, ↓hla0, ↓hla1, ↓hla2, hF6, Int.reduceBEq, ↓ZD, ZU, ZR, Za, Zb, Zc, Zd, Ze, Zf, Zg, Zh, Zi, Zj, Zk, Zl, Zm, Zn, Zo, Zp, Zq, Zr, reduceIte, reduceCtorEq, Zs, Zt, Zu, Zv]
        refine wr_1011 (put1 _ b b6 9 (s ++ ifT x y z 3) ([41]) _ (by simp [rdObj, hF6, lk]) (by (try simp only [List.length_append, List.length_cons, List.length_nil]); omega)) hpi hb6 hd3 hd2 fun Hw0 hpw0 hdw0_0 hdw0_1 hdw0_2 => ?_
        simp (disch := first | assumption | exact Ne.symm (by assumption) | omega) only [hF2, hF3, ↓hla0, ↓hla1, ↓hla2, hF6, Int.reduceBEq, ↓ZD, ZU, ZR, Za, Zb, Zc, Zd, Ze, Zf, Zg, Zh, Zi, Zj, Zk, Zl, Zm, Zn, Zo, Zp, Zq, Zr, reduceIte, reduceCtorEq, Zs, Zt, Zu, Zv]
        refine ⟨Hw0, by simp +contextual, ?_⟩
        refine hpw0.cast ?_ ?_
        · simp [pt, har, nodeT, isTwo, signT, methT, ptL, ifT]
        · simp [okX, okL, har, nodeOk, litOk, ifT]
          simp [ifB]
    · obtain ⟨x, y, rfl⟩ : ∃ x y, kids = [x, y] := by
        have := hr3 (by decide)
        rw [show kidsI 8 = 2 by decide] at this
        match kids, this with | [x, y], _ => exact ⟨x, y, rfl⟩
      obtain ⟨ba0, oa0, ea0, hla0⟩ := (h1 0 x rfl).ldn
      simp only [Nat.reduceMul, Nat.zero_mul, Nat.add_zero] at hla0
      obtain ⟨ba1, oa1, ea1, hla1⟩ := (h1 1 y rfl).ldn
      simp only [Nat.reduceMul, Nat.zero_mul, Nat.add_zero] at hla1
      subst ea0
      simp only [Option.some.injEq, Addr.mk.injEq, and_true] at ea1
      obtain ⟨rfl, rfl⟩ := ea1
      have har : arOk 8 2 names.length = true := by simpa using har
      rw [show isTwo 8 = true from rfl, if_pos rfl, show signT 8 = [32, 61, 61, 32] from rfl]
      simp only [wtL] at hw
      have hl2 : s.length + ([40] ++ (pt x ++ ([32, 61, 61, 32] ++ (pt y ++ [41])))).length ≤ 100000000000000 := by simpa [pt, har, nodeT, isTwo, signT, methT, ptL] using hl
      simp only [List.length_append, List.length_cons, List.length_nil] at hl2
      simp (disch := first | assumption | exact Ne.symm (by assumption) | omega) only [hF2, hF3, ↓hla0, ↓hla1, getV, Int.reduceBEq, ↓ZD, ZU, ZR, Za, Zb, Zc, Zd, Ze, Zf, Zg, Zh, Zi, Zj, Zk, Zl, Zm, Zn, Zo, Zp, Zq, Zr, reduceIte, reduceCtorEq, Zs, Zt, Zu, Zv]
      refine new_2 fun b5 he5_0 he5_1 hb5 hF5 => ?_
      simp (disch := first | assumption | exact Ne.symm (by assumption) | omega) only [hF2, hF3, ↓hla0, ↓hla1, hF5, Int.reduceBEq, ↓ZD, ZU, ZR, Za, Zb, Zc, Zd, Ze, Zf, Zg, Zh, Zi, Zj, Zk, Zl, Zm, Zn, Zo, Zp, Zq, Zr, reduceIte, reduceCtorEq, Zs, Zt, Zu, Zv]
      refine wr_111 (put1 _ b b5 9 (s) ([40]) _ (by simp [rdObj, hF5, lk]) (by (try simp only [List.length_append, List.length_cons, List.length_nil]); omega)) hp hb5 hb3 hb2 fun Hw0 hpw0 hdw0_0 hdw0_1 hdw0_2 => ?_
      simp (disch := first | assumption | exact Ne.symm (by assumption) | omega) only [hF2, hF3, ↓hla0, ↓hla1, hF5, Int.reduceBEq, ↓ZD, ZU, ZR, Za, Zb, Zc, Zd, Ze, Zf, Zg, Zh, Zi, Zj, Zk, Zl, Zm, Zn, Zo, Zp, Zq, Zr, reduceIte, reduceCtorEq, Zs, Zt, Zu, Zv]
      repeat (refine conj.of (by first | omega | decide) ?_; simp (disch := first | assumption | exact Ne.symm (by assumption) | omega) only [hF2, hF3, ↓hla0, ↓hla1, hF5, Int.reduceBEq, ↓ZD, ZU, ZR, Za, Zb, Zc, Zd, Ze, Zf, Zg, Zh, Zi, Zj, Zk, Zl, Zm, Zn, Zo, Zp, Zq, Zr, reduceIte, reduceCtorEq, Zs, Zt, Zu, Zv])
      refine wr_011 (ih 0 x rfl _ le_up b (s ++ [40]) (bad) (by (try simp only [List.length_append, List.length_cons, List.length_nil]); omega)) hpw0 hdw0_1 hdw0_2 fun Hw1 hpw1 hdw1_0 hdw1_1 => ?_
      simp (disch := first | assumption | exact Ne.symm (by assumption) | omega) only [hF2, hF3, ↓hla0, ↓hla1, hF5, Int.reduceBEq, ↓ZD, ZU, ZR, Za, Zb, Zc, Zd, Ze, Zf, Zg, Zh, Zi, Zj, Zk, Zl, Zm, Zn, Zo, Zp, Zq, Zr, reduceIte, reduceCtorEq, Zs, Zt, Zu, Zv]
      refine new_2 fun b6 he6_0 he6_1 hb6 hF6 => ?_
      simp (disch := first | assumption | exact Ne.symm (by assumption) | omega) only [hF2, hF3, ↓hla0, ↓hla1, hF6, Int.reduceBEq, ↓ZD, ZU, ZR, Za, Zb, Zc, Zd, Ze, Zf, Zg, Zh, Zi, Zj, Zk, Zl, Zm, Zn, Zo, Zp, Zq, Zr, reduceIte, reduceCtorEq, Zs, Zt, Zu, Zv]
      refine wr_111 (put1 _ b b6 9 (s ++ [40] ++ pt x) ([32, 61, 61, 32]) _ (by simp [rdObj, hF6, lk]) (by (try simp only [List.length_append, List.length_cons, List.length_nil]); omega)) hpw1 hb6 hdw1_0 hdw1_1 fun Hw2 hpw2 hdw2_0 hdw2_1 hdw2_2 => ?_
      simp (disch := first | assumption | exact Ne.symm (by assumption) | omega) only [hF2, hF3, ↓hla0, ↓hla1, hF6, Int.reduceBEq, ↓ZD, ZU, ZR, Za, Zb, Zc, Zd, Ze, Zf, Zg, Zh, Zi, Zj, Zk, Zl, Zm, Zn, Zo, Zp, Zq, Zr, reduceIte, reduceCtorEq, Zs, Zt, Zu, Zv]
      repeat (refine conj.of (by first | omega | decide) ?_; simp (disch := first | assumption | exact Ne.symm (by assumption) | omega) only [hF2, hF3, ↓hla0, ↓hla1, hF6, Int.reduceBEq, ↓ZD, ZU, ZR, Za, Zb, Zc, Zd, Ze, Zf, Zg, Zh, Zi, Zj, Zk, Zl, Zm, Zn, Zo, Zp, Zq, Zr, reduceIte, reduceCtorEq, Zs, Zt, Zu, Zv])
      refine wr_011 (ih 1 y rfl _ le_up b (s ++ [40] ++ pt x ++ [32, 61, 61, 32]) (bad || !okX x) (by (try simp only [List.length_append, List.length_cons, List.length_nil]); omega)) hpw2 hdw2_1 hdw2_2 fun Hw3 hpw3 hdw3_0 hdw3_1 => ?_
      simp (disch := first | assumption | exact Ne.symm (by assumption) | omega) only [hF2, hF3, ↓hla0, ↓hla1, hF6, Int.reduceBEq, ↓ZD, ZU, ZR, Za, Zb, Zc, Zd, Ze, Zf, Zg, Zh, Zi, Zj, Zk, Zl, Zm, Zn, Zo, Zp, Zq, Zr, reduceIte, reduceCtorEq, Zs, Zt, Zu, Zv]
      refine new_2 fun b7 he7_0 he7_1 hb7 hF7 => ?_
      simp (disch := first | assumption | exact Ne.symm (by assumption) | omega) only [hF2, hF3, ↓hla0, ↓hla1, hF7, Int.reduceBEq, ↓ZD, ZU, ZR, Za, Zb, Zc, Zd, Ze, Zf, Zg, Zh, Zi, Zj, Zk, Zl, Zm, Zn, Zo, Zp, Zq, Zr, reduceIte, reduceCtorEq, Zs, Zt, Zu, Zv]
      refine wr_111 (put1 _ b b7 9 (s ++ [40] ++ pt x ++ [32, 61, 61, 32] ++ pt y) ([41]) _ (by simp [rdObj, hF7, lk]) (by (try simp only [List.length_append, List.length_cons, List.length_nil]); omega)) hpw3 hb7 hdw3_0 hdw3_1 fun Hw4 hpw4 hdw4_0 hdw4_1 hdw4_2 => ?_
      simp (disch := first | assumption | exact Ne.symm (by assumption) | omega) only [hF2, hF3, ↓hla0, ↓hla1, hF7, Int.reduceBEq, ↓ZD, ZU, ZR, Za, Zb, Zc, Zd, Ze, Zf, Zg, Zh, Zi, Zj, Zk, Zl, Zm, Zn, Zo, Zp, Zq, Zr, reduceIte, reduceCtorEq, Zs, Zt, Zu, Zv]
      refine ⟨Hw4, by simp +contextual, ?_⟩
      refine hpw4.cast ?_ ?_
      · simp [pt, har, nodeT, isTwo, signT, methT, ptL]
      · simp [okX, okL, har, nodeOk, litOk]
        cases bad <;> cases okX x <;> cases okX y <;> rfl
    · obtain ⟨x, y, rfl⟩ : ∃ x y, kids = [x, y] := by
        have := hr3 (by decide)
        rw [show kidsI 9 = 2 by decide] at this
        match kids, this with | [x, y], _ => exact ⟨x, y, rfl⟩
      obtain ⟨ba0, oa0, ea0, hla0⟩ := (h1 0 x rfl).ldn
      simp only [Nat.reduceMul, Nat.zero_mul, Nat.add_zero] at hla0
      obtain ⟨ba1, oa1, ea1, hla1⟩ := (h1 1 y rfl).ldn
      simp only [Nat.reduceMul, Nat.zero_mul, Nat.add_zero] at hla1
      subst ea0
      simp only [Option.some.injEq, Addr.mk.injEq, and_true] at ea1
      obtain ⟨rfl, rfl⟩ := ea1
      have har : arOk 9 2 names.length = true := by simpa using har
      rw [show isTwo 9 = true from rfl, if_pos rfl, show signT 9 = [32, 60, 32] from rfl]
      simp only [wtL] at hw
      have hl2 : s.length + ([40] ++ (pt x ++ ([32, 60, 32] ++ (pt y ++ [41])))).length ≤ 100000000000000 := by simpa [pt, har, nodeT, isTwo, signT, methT, ptL] using hl
      simp only [List.length_append, List.length_cons, List.length_nil] at hl2
      simp (disch := first | assumption | exact Ne.symm (by assumption) | omega) only [hF2, hF3, ↓hla0, ↓hla1, getV, Int.reduceBEq, ↓ZD, ZU, ZR, Za, Zb, Zc, Zd, Ze, Zf, Zg, Zh, Zi, Zj, Zk, Zl, Zm, Zn, Zo, Zp, Zq, Zr, reduceIte, reduceCtorEq, Zs, Zt, Zu, Zv]
      refine new_2 fun b5 he5_0 he5_1 hb5 hF5 => ?_
      simp (disch := first | assumption | exact Ne.symm (by assumption) | omega) only [hF2, hF3, ↓hla0, ↓hla1, hF5, Int.reduceBEq, ↓ZD, ZU, ZR, Za, Zb, Zc, Zd, Ze, Zf, Zg, Zh, Zi, Zj, Zk, Zl, Zm, Zn, Zo, Zp, Zq, Zr, reduceIte, reduceCtorEq, Zs, Zt, Zu, Zv]
      refine wr_111 (put1 _ b b5 9 (s) ([40]) _ (by simp [rdObj, hF5, lk]) (by (try simp only [List.length_append, List.length_cons, List.length_nil]); omega)) hp hb5 hb3 hb2 fun Hw0 hpw0 hdw0_0 hdw0_1 hdw0_2 => ?_
      simp (disch := first | assumption | exact Ne.symm (by assumption) | omega) only [hF2, hF3, ↓hla0, ↓hla1, hF5, Int.reduceBEq, ↓ZD, ZU, ZR, Za, Zb, Zc, Zd, Ze, Zf, Zg, Zh, Zi, Zj, Zk, Zl, Zm, Zn, Zo, Zp, Zq, Zr, reduceIte, reduceCtorEq, Zs, Zt, Zu, Zv]
      repeat (refine conj.of (by first | omega | decide) ?_; simp (disch := first | assumption | exact Ne.symm (by assumption) | omega) only [hF2, hF3, ↓hla0, ↓hla1, hF5, Int.reduceBEq, ↓ZD, ZU, ZR, Za, Zb, Zc, Zd, Ze, Zf, Zg, Zh, Zi, Zj, Zk, Zl, Zm, Zn, Zo, Zp, Zq, Zr, reduceIte, reduceCtorEq, Zs, Zt, Zu, Zv])
      refine wr_011 (ih 0 x rfl _ le_up b (s ++ [40]) (bad) (by (try simp only [List.length_append, List.length_cons, List.length_nil]); omega)) hpw0 hdw0_1 hdw0_2 fun Hw1 hpw1 hdw1_0 hdw1_1 => ?_
      simp (disch := first | assumption | exact Ne.symm (by assumption) | omega) only [hF2, hF3, ↓hla0, ↓hla1, hF5, Int.reduceBEq, ↓ZD, ZU, ZR, Za, Zb, Zc, Zd, Ze, Zf, Zg, Zh, Zi, Zj, Zk, Zl, Zm, Zn, Zo, Zp, Zq, Zr, reduceIte, reduceCtorEq, Zs, Zt, Zu, Zv]
      refine new_2 fun b6 he6_0 he6_1 hb6 hF6 => ?_
      simp (disch := first | assumption | exact Ne.symm (by assumption) | omega) only [hF2, hF3, ↓hla0, ↓hla1, hF6, Int.reduceBEq, ↓ZD, ZU, ZR, Za, Zb, Zc, Zd, Ze, Zf, Zg, Zh, Zi, Zj, Zk, Zl, Zm, Zn, Zo, Zp, Zq, Zr, reduceIte, reduceCtorEq, Zs, Zt, Zu, Zv]
      refine wr_111 (put1 _ b b6 9 (s ++ [40] ++ pt x) ([32, 60, 32]) _ (by simp [rdObj, hF6, lk]) (by (try simp only [List.length_append, List.length_cons, List.length_nil]); omega)) hpw1 hb6 hdw1_0 hdw1_1 fun Hw2 hpw2 hdw2_0 hdw2_1 hdw2_2 => ?_
      simp (disch := first | assumption | exact Ne.symm (by assumption) | omega) only [hF2, hF3, ↓hla0, ↓hla1, hF6, Int.reduceBEq, ↓ZD, ZU, ZR, Za, Zb, Zc, Zd, Ze, Zf, Zg, Zh, Zi, Zj, Zk, Zl, Zm, Zn, Zo, Zp, Zq, Zr, reduceIte, reduceCtorEq, Zs, Zt, Zu, Zv]
      repeat (refine conj.of (by first | omega | decide) ?_; simp (disch := first | assumption | exact Ne.symm (by assumption) | omega) only [hF2, hF3, ↓hla0, ↓hla1, hF6, Int.reduceBEq, ↓ZD, ZU, ZR, Za, Zb, Zc, Zd, Ze, Zf, Zg, Zh, Zi, Zj, Zk, Zl, Zm, Zn, Zo, Zp, Zq, Zr, reduceIte, reduceCtorEq, Zs, Zt, Zu, Zv])
      refine wr_011 (ih 1 y rfl _ le_up b (s ++ [40] ++ pt x ++ [32, 60, 32]) (bad || !okX x) (by (try simp only [List.length_append, List.length_cons, List.length_nil]); omega)) hpw2 hdw2_1 hdw2_2 fun Hw3 hpw3 hdw3_0 hdw3_1 => ?_
      simp (disch := first | assumption | exact Ne.symm (by assumption) | omega) only [hF2, hF3, ↓hla0, ↓hla1, hF6, Int.reduceBEq, ↓ZD, ZU, ZR, Za, Zb, Zc, Zd, Ze, Zf, Zg, Zh, Zi, Zj, Zk, Zl, Zm, Zn, Zo, Zp, Zq, Zr, reduceIte, reduceCtorEq, Zs, Zt, Zu, Zv]
      refine new_2 fun b7 he7_0 he7_1 hb7 hF7 => ?_
      simp (disch := first | assumption | exact Ne.symm (by assumption) | omega) only [hF2, hF3, ↓hla0, ↓hla1, hF7, Int.reduceBEq, ↓ZD, ZU, ZR, Za, Zb, Zc, Zd, Ze, Zf, Zg, Zh, Zi, Zj, Zk, Zl, Zm, Zn, Zo, Zp, Zq, Zr, reduceIte, reduceCtorEq, Zs, Zt, Zu, Zv]
      refine wr_111 (put1 _ b b7 9 (s ++ [40] ++ pt x ++ [32, 60, 32] ++ pt y) ([41]) _ (by simp [rdObj, hF7, lk]) (by (try simp only [List.length_append, List.length_cons, List.length_nil]); omega)) hpw3 hb7 hdw3_0 hdw3_1 fun Hw4 hpw4 hdw4_0 hdw4_1 hdw4_2 => ?_
      simp (disch := first | assumption | exact Ne.symm (by assumption) | omega) only [hF2, hF3, ↓hla0, ↓hla1, hF7, Int.reduceBEq, ↓ZD, ZU, ZR, Za, Zb, Zc, Zd, Ze, Zf, Zg, Zh, Zi, Zj, Zk, Zl, Zm, Zn, Zo, Zp, Zq, Zr, reduceIte, reduceCtorEq, Zs, Zt, Zu, Zv]
      refine ⟨Hw4, by simp +contextual, ?_⟩
      refine hpw4.cast ?_ ?_
      · simp [pt, har, nodeT, isTwo, signT, methT, ptL]
      · simp [okX, okL, har, nodeOk, litOk]
        cases bad <;> cases okX x <;> cases okX y <;> rfl
    · obtain ⟨x, y, rfl⟩ : ∃ x y, kids = [x, y] := by
        have := hr3 (by decide)
        rw [show kidsI 10 = 2 by decide] at this
        match kids, this with | [x, y], _ => exact ⟨x, y, rfl⟩
      obtain ⟨ba0, oa0, ea0, hla0⟩ := (h1 0 x rfl).ldn
      simp only [Nat.reduceMul, Nat.zero_mul, Nat.add_zero] at hla0
      obtain ⟨ba1, oa1, ea1, hla1⟩ := (h1 1 y rfl).ldn
      simp only [Nat.reduceMul, Nat.zero_mul, Nat.add_zero] at hla1
      subst ea0
      simp only [Option.some.injEq, Addr.mk.injEq, and_true] at ea1
      obtain ⟨rfl, rfl⟩ := ea1
      have har : arOk 10 2 names.length = true := by simpa using har
      rw [show isTwo 10 = true from rfl, if_pos rfl, show signT 10 = [32, 60, 61, 32] from rfl]
      simp only [wtL] at hw
      have hl2 : s.length + ([40] ++ (pt x ++ ([32, 60, 61, 32] ++ (pt y ++ [41])))).length ≤ 100000000000000 := by simpa [pt, har, nodeT, isTwo, signT, methT, ptL] using hl
      simp only [List.length_append, List.length_cons, List.length_nil] at hl2
      simp (disch := first | assumption | exact Ne.symm (by assumption) | omega) only [hF2, hF3, ↓hla0, ↓hla1, getV, Int.reduceBEq, ↓ZD, ZU, ZR, Za, Zb, Zc, Zd, Ze, Zf, Zg, Zh, Zi, Zj, Zk, Zl, Zm, Zn, Zo, Zp, Zq, Zr, reduceIte, reduceCtorEq, Zs, Zt, Zu, Zv]
      refine new_2 fun b5 he5_0 he5_1 hb5 hF5 => ?_
      simp (disch := first | assumption | exact Ne.symm (by assumption) | omega) only [hF2, hF3, ↓hla0, ↓hla1, hF5, Int.reduceBEq, ↓ZD, ZU, ZR, Za, Zb, Zc, Zd, Ze, Zf, Zg, Zh, Zi, Zj, Zk, Zl, Zm, Zn, Zo, Zp, Zq, Zr, reduceIte, reduceCtorEq, Zs, Zt, Zu, Zv]
      refine wr_111 (put1 _ b b5 9 (s) ([40]) _ (by simp [rdObj, hF5, lk]) (by (try simp only [List.length_append, List.length_cons, List.length_nil]); omega)) hp hb5 hb3 hb2 fun Hw0 hpw0 hdw0_0 hdw0_1 hdw0_2 => ?_
      simp (disch := first | assumption | exact Ne.symm (by assumption) | omega) only [hF2, hF3, ↓hla0, ↓hla1, hF5, Int.reduceBEq, ↓ZD, ZU, ZR, Za, Zb, Zc, Zd, Ze, Zf, Zg, Zh, Zi, Zj, Zk, Zl, Zm, Zn, Zo, Zp, Zq, Zr, reduceIte, reduceCtorEq, Zs, Zt, Zu, Zv]
      repeat (refine conj.of (by first | omega | decide) ?_; simp (disch := first | assumption | exact Ne.symm (by assumption) | omega) only [hF2, hF3, ↓hla0, ↓hla1, hF5, Int.reduceBEq, ↓ZD, ZU, ZR, Za, Zb, Zc, Zd, Ze, Zf, Zg, Zh, Zi, Zj, Zk, Zl, Zm, Zn, Zo, Zp, Zq, Zr, reduceIte, reduceCtorEq, Zs, Zt, Zu, Zv])
      refine wr_011 (ih 0 x rfl _ le_up b (s ++ [40]) (bad) (by (try simp only [List.length_append, List.length_cons, List.length_nil]); omega)) hpw0 hdw0_1 hdw0_2 fun Hw1 hpw1 hdw1_0 hdw1_1 => ?_
      simp (disch := first | assumption | exact Ne.symm (by assumption) | omega) only [hF2, hF3, ↓hla0, ↓hla1, hF5, Int.reduceBEq, ↓ZD, ZU, ZR, Za, Zb, Zc, Zd, Ze, Zf, Zg, Zh, Zi, Zj, Zk, Zl, Zm, Zn, Zo, Zp, Zq, Zr, reduceIte, reduceCtorEq, Zs, Zt, Zu, Zv]
      refine new_2 fun b6 he6_0 he6_1 hb6 hF6 => ?_
      simp (disch := first | assumption | exact Ne.symm (by assumption) | omega) only [hF2, hF3, ↓hla0, ↓hla1, hF6, Int.reduceBEq, ↓ZD, ZU, ZR, Za, Zb, Zc, Zd, Ze, Zf, Zg, Zh, Zi, Zj, Zk, Zl, Zm, Zn, Zo, Zp, Zq, Zr, reduceIte, reduceCtorEq, Zs, Zt, Zu, Zv]
      refine wr_111 (put1 _ b b6 9 (s ++ [40] ++ pt x) ([32, 60, 61, 32]) _ (by simp [rdObj, hF6, lk]) (by (try simp only [List.length_append, List.length_cons, List.length_nil]); omega)) hpw1 hb6 hdw1_0 hdw1_1 fun Hw2 hpw2 hdw2_0 hdw2_1 hdw2_2 => ?_
      simp (disch := first | assumption | exact Ne.symm (by assumption) | omega) only [hF2, hF3, ↓hla0, ↓hla1, hF6, Int.reduceBEq, ↓ZD, ZU, ZR, Za, Zb, Zc, Zd, Ze, Zf, Zg, Zh, Zi, Zj, Zk, Zl, Zm, Zn, Zo, Zp, Zq, Zr, reduceIte, reduceCtorEq, Zs, Zt, Zu, Zv]
      repeat (refine conj.of (by first | omega | decide) ?_; simp (disch := first | assumption | exact Ne.symm (by assumption) | omega) only [hF2, hF3, ↓hla0, ↓hla1, hF6, Int.reduceBEq, ↓ZD, ZU, ZR, Za, Zb, Zc, Zd, Ze, Zf, Zg, Zh, Zi, Zj, Zk, Zl, Zm, Zn, Zo, Zp, Zq, Zr, reduceIte, reduceCtorEq, Zs, Zt, Zu, Zv])
      refine wr_011 (ih 1 y rfl _ le_up b (s ++ [40] ++ pt x ++ [32, 60, 61, 32]) (bad || !okX x) (by (try simp only [List.length_append, List.length_cons, List.length_nil]); omega)) hpw2 hdw2_1 hdw2_2 fun Hw3 hpw3 hdw3_0 hdw3_1 => ?_
      simp (disch := first | assumption | exact Ne.symm (by assumption) | omega) only [hF2, hF3, ↓hla0, ↓hla1, hF6, Int.reduceBEq, ↓ZD, ZU, ZR, Za, Zb, Zc, Zd, Ze, Zf, Zg, Zh, Zi, Zj, Zk, Zl, Zm, Zn, Zo, Zp, Zq, Zr, reduceIte, reduceCtorEq, Zs, Zt, Zu, Zv]
      refine new_2 fun b7 he7_0 he7_1 hb7 hF7 => ?_
      simp (disch := first | assumption | exact Ne.symm (by assumption) | omega) only [hF2, hF3, ↓hla0, ↓hla1, hF7, Int.reduceBEq, ↓ZD, ZU, ZR, Za, Zb, Zc, Zd, Ze, Zf, Zg, Zh, Zi, Zj, Zk, Zl, Zm, Zn, Zo, Zp, Zq, Zr, reduceIte, reduceCtorEq, Zs, Zt, Zu, Zv]
      refine wr_111 (put1 _ b b7 9 (s ++ [40] ++ pt x ++ [32, 60, 61, 32] ++ pt y) ([41]) _ (by simp [rdObj, hF7, lk]) (by (try simp only [List.length_append, List.length_cons, List.length_nil]); omega)) hpw3 hb7 hdw3_0 hdw3_1 fun Hw4 hpw4 hdw4_0 hdw4_1 hdw4_2 => ?_
      simp (disch := first | assumption | exact Ne.symm (by assumption) | omega) only [hF2, hF3, ↓hla0, ↓hla1, hF7, Int.reduceBEq, ↓ZD, ZU, ZR, Za, Zb, Zc, Zd, Ze, Zf, Zg, Zh, Zi, Zj, Zk, Zl, Zm, Zn, Zo, Zp, Zq, Zr, reduceIte, reduceCtorEq, Zs, Zt, Zu, Zv]
      refine ⟨Hw4, by simp +contextual, ?_⟩
      refine hpw4.cast ?_ ?_
      · simp [pt, har, nodeT, isTwo, signT, methT, ptL]
      · simp [okX, okL, har, nodeOk, litOk]
        cases bad <;> cases okX x <;> cases okX y <;> rfl
    · obtain ⟨x, y, rfl⟩ : ∃ x y, kids = [x, y] := by
        have := hr3 (by decide)
        rw [show kidsI 11 = 2 by decide] at this
        match kids, this with | [x, y], _ => exact ⟨x, y, rfl⟩
      obtain ⟨ba0, oa0, ea0, hla0⟩ := (h1 0 x rfl).ldn
      simp only [Nat.reduceMul, Nat.zero_mul, Nat.add_zero] at hla0
      obtain ⟨ba1, oa1, ea1, hla1⟩ := (h1 1 y rfl).ldn
      simp only [Nat.reduceMul, Nat.zero_mul, Nat.add_zero] at hla1
      subst ea0
      simp only [Option.some.injEq, Addr.mk.injEq, and_true] at ea1
      obtain ⟨rfl, rfl⟩ := ea1
      have har : arOk 11 2 names.length = true := by simpa using har
      rw [show isTwo 11 = true from rfl, if_pos rfl, show signT 11 = [32, 43, 32] from rfl]
      simp only [wtL] at hw
      have hl2 : s.length + ([40] ++ (pt x ++ ([32, 43, 32] ++ (pt y ++ [41])))).length ≤ 100000000000000 := by simpa [pt, har, nodeT, isTwo, signT, methT, ptL] using hl
      simp only [List.length_append, List.length_cons, List.length_nil] at hl2
      simp (disch := first | assumption | exact Ne.symm (by assumption) | omega) only [hF2, hF3, ↓hla0, ↓hla1, getV, Int.reduceBEq, ↓ZD, ZU, ZR, Za, Zb, Zc, Zd, Ze, Zf, Zg, Zh, Zi, Zj, Zk, Zl, Zm, Zn, Zo, Zp, Zq, Zr, reduceIte, reduceCtorEq, Zs, Zt, Zu, Zv]
      refine new_2 fun b5 he5_0 he5_1 hb5 hF5 => ?_
      simp (disch := first | assumption | exact Ne.symm (by assumption) | omega) only [hF2, hF3, ↓hla0, ↓hla1, hF5, Int.reduceBEq, ↓ZD, ZU, ZR, Za, Zb, Zc, Zd, Ze, Zf, Zg, Zh, Zi, Zj, Zk, Zl, Zm, Zn, Zo, Zp, Zq, Zr, reduceIte, reduceCtorEq, Zs, Zt, Zu, Zv]
      refine wr_111 (put1 _ b b5 9 (s) ([40]) _ (by simp [rdObj, hF5, lk]) (by (try simp only [List.length_append, List.length_cons, List.length_nil]); omega)) hp hb5 hb3 hb2 fun Hw0 hpw0 hdw0_0 hdw0_1 hdw0_2 => ?_
      simp (disch := first | assumption | exact Ne.symm (by assumption) | omega) only [hF2, hF3, ↓hla0, ↓hla1, hF5, Int.reduceBEq, ↓ZD, ZU, ZR, Za, Zb, Zc, Zd, Ze, Zf, Zg, Zh, Zi, Zj, Zk, Zl, Zm, Zn, Zo, Zp, Zq, Zr, reduceIte, reduceCtorEq, Zs, Zt, Zu, Zv]
      repeat (refine conj.of (by first | omega | decide) ?_; simp (disch := first | assumption | exact Ne.symm (by assumption) | omega) only [hF2, hF3, ↓hla0, ↓hla1, hF5, Int.reduceBEq, ↓ZD, ZU, ZR, Za, Zb, Zc, Zd, Ze, Zf, Zg, Zh, Zi, Zj, Zk, Zl, Zm, Zn, Zo, Zp, Zq, Zr, reduceIte, reduceCtorEq, Zs, Zt, Zu, Zv])
      refine wr_011 (ih 0 x rfl _ le_up b (s ++ [40]) (bad) (by (try simp only [List.length_append, List.length_cons, List.length_nil]); omega)) hpw0 hdw0_1 hdw0_2 fun Hw1 hpw1 hdw1_0 hdw1_1 => ?_
      simp (disch := first | assumption | exact Ne.symm (by assumption) | omega) only [hF2, hF3, ↓hla0, ↓hla1, hF5, Int.reduceBEq, ↓ZD, ZU, ZR, Za, Zb, Zc, Zd, Ze, Zf, Zg, Zh, Zi, Zj, Zk, Zl, Zm, Zn, Zo, Zp, Zq, Zr, reduceIte, reduceCtorEq, Zs, Zt, Zu, Zv]
      refine new_2 fun b6 he6_0 he6_1 hb6 hF6 => ?_
      simp (disch := first | assumption | exact Ne.symm (by assumption) | omega) only [hF2, hF3, ↓hla0, ↓hla1, hF6, Int.reduceBEq, ↓ZD, ZU, ZR, Za, Zb, Zc, Zd, Ze, Zf, Zg, Zh, Zi, Zj, Zk, Zl, Zm, Zn, Zo, Zp, Zq, Zr, reduceIte, reduceCtorEq, Zs, Zt, Zu, Zv]
      refine wr_111 (put1 _ b b6 9 (s ++ [40] ++ pt x) ([32, 43, 32]) _ (by simp [rdObj, hF6, lk]) (by (try simp only [List.length_append, List.length_cons, List.length_nil]); omega)) hpw1 hb6 hdw1_0 hdw1_1 fun Hw2 hpw2 hdw2_0 hdw2_1 hdw2_2 => ?_
      simp (disch := first | assumption | exact Ne.symm (by assumption) | omega) only [hF2, hF3, ↓hla0, ↓hla1, hF6, Int.reduceBEq, ↓ZD, ZU, ZR, Za, Zb, Zc, Zd, Ze, Zf, Zg, Zh, Zi, Zj, Zk, Zl, Zm, Zn, Zo, Zp, Zq, Zr, reduceIte, reduceCtorEq, Zs, Zt, Zu, Zv]
      repeat (refine conj.of (by first | omega | decide) ?_; simp (disch := first | assumption | exact Ne.symm (by assumption) | omega) only [hF2, hF3, ↓hla0, ↓hla1, hF6, Int.reduceBEq, ↓ZD, ZU, ZR, Za, Zb, Zc, Zd, Ze, Zf, Zg, Zh, Zi, Zj, Zk, Zl, Zm, Zn, Zo, Zp, Zq, Zr, reduceIte, reduceCtorEq, Zs, Zt, Zu, Zv])
      refine wr_011 (ih 1 y rfl _ le_up b (s ++ [40] ++ pt x ++ [32, 43, 32]) (bad || !okX x) (by (try simp only [List.length_append, List.length_cons, List.length_nil]); omega)) hpw2 hdw2_1 hdw2_2 fun Hw3 hpw3 hdw3_0 hdw3_1 => ?_
      simp (disch := first | assumption | exact Ne.symm (by assumption) | omega) only [hF2, hF3, ↓hla0, ↓hla1, hF6, Int.reduceBEq, ↓ZD, ZU, ZR, Za, Zb, Zc, Zd, Ze, Zf, Zg, Zh, Zi, Zj, Zk, Zl, Zm, Zn, Zo, Zp, Zq, Zr, reduceIte, reduceCtorEq, Zs, Zt, Zu, Zv]
      refine new_2 fun b7 he7_0 he7_1 hb7 hF7 => ?_
      simp (disch := first | assumption | exact Ne.symm (by assumption) | omega) only [hF2, hF3, ↓hla0, ↓hla1, hF7, Int.reduceBEq, ↓ZD, ZU, ZR, Za, Zb, Zc, Zd, Ze, Zf, Zg, Zh, Zi, Zj, Zk, Zl, Zm, Zn, Zo, Zp, Zq, Zr, reduceIte, reduceCtorEq, Zs, Zt, Zu, Zv]
      refine wr_111 (put1 _ b b7 9 (s ++ [40] ++ pt x ++ [32, 43, 32] ++ pt y) ([41]) _ (by simp [rdObj, hF7, lk]) (by (try simp only [List.length_append, List.length_cons, List.length_nil]); omega)) hpw3 hb7 hdw3_0 hdw3_1 fun Hw4 hpw4 hdw4_0 hdw4_1 hdw4_2 => ?_
      simp (disch := first | assumption | exact Ne.symm (by assumption) | omega) only [hF2, hF3, ↓hla0, ↓hla1, hF7, Int.reduceBEq, ↓ZD, ZU, ZR, Za, Zb, Zc, Zd, Ze, Zf, Zg, Zh, Zi, Zj, Zk, Zl, Zm, Zn, Zo, Zp, Zq, Zr, reduceIte, reduceCtorEq, Zs, Zt, Zu, Zv]
      refine ⟨Hw4, by simp +contextual, ?_⟩
      refine hpw4.cast ?_ ?_
      · simp [pt, har, nodeT, isTwo, signT, methT, ptL]
      · simp [okX, okL, har, nodeOk, litOk]
        cases bad <;> cases okX x <;> cases okX y <;> rfl
    · obtain ⟨x, y, rfl⟩ : ∃ x y, kids = [x, y] := by
        have := hr3 (by decide)
        rw [show kidsI 12 = 2 by decide] at this
        match kids, this with | [x, y], _ => exact ⟨x, y, rfl⟩
      obtain ⟨ba0, oa0, ea0, hla0⟩ := (h1 0 x rfl).ldn
      simp only [Nat.reduceMul, Nat.zero_mul, Nat.add_zero] at hla0
      obtain ⟨ba1, oa1, ea1, hla1⟩ := (h1 1 y rfl).ldn
      simp only [Nat.reduceMul, Nat.zero_mul, Nat.add_zero] at hla1
      subst ea0
      simp only [Option.some.injEq, Addr.mk.injEq, and_true] at ea1
      obtain ⟨rfl, rfl⟩ := ea1
      have har : arOk 12 2 names.length = true := by simpa using har
      rw [show isTwo 12 = true from rfl, if_pos rfl, show signT 12 = [32, 45, 32] from rfl]
      simp only [wtL] at hw
      have hl2 : s.length + ([40] ++ (pt x ++ ([32, 45, 32] ++ (pt y ++ [41])))).length ≤ 100000000000000 := by simpa [pt, har, nodeT, isTwo, signT, methT, ptL] using hl
      simp only [List.length_append, List.length_cons, List.length_nil] at hl2
      simp (disch := first | assumption | exact Ne.symm (by assumption) | omega) only [hF2, hF3, ↓hla0, ↓hla1, getV, Int.reduceBEq, ↓ZD, ZU, ZR, Za, Zb, Zc, Zd, Ze, Zf, Zg, Zh, Zi, Zj, Zk, Zl, Zm, Zn, Zo, Zp, Zq, Zr, reduceIte, reduceCtorEq, Zs, Zt, Zu, Zv]
      refine new_2 fun b5 he5_0 he5_1 hb5 hF5 => ?_
      simp (disch := first | assumption | exact Ne.symm (by assumption) | omega) only [hF2, hF3, ↓hla0, ↓hla1, hF5, Int.reduceBEq, ↓ZD, ZU, ZR, Za, Zb, Zc, Zd, Ze, Zf, Zg, Zh, Zi, Zj, Zk, Zl, Zm, Zn, Zo, Zp, Zq, Zr, reduceIte, reduceCtorEq, Zs, Zt, Zu, Zv]
      refine wr_111 (put1 _ b b5 9 (s) ([40]) _ (by simp [rdObj, hF5, lk]) (by (try simp only [List.length_append, List.length_cons, List.length_nil]); omega)) hp hb5 hb3 hb2 fun Hw0 hpw0 hdw0_0 hdw0_1 hdw0_2 => ?_
      simp (disch := first | assumption | exact Ne.symm (by assumption) | omega) only [hF2, hF3, ↓hla0, ↓hla1, hF5, Int.reduceBEq, ↓ZD, ZU, ZR, Za, Zb, Zc, Zd, Ze, Zf, Zg, Zh, Zi, Zj, Zk, Zl, Zm, Zn, Zo, Zp, Zq, Zr, reduceIte, reduceCtorEq, Zs, Zt, Zu, Zv]
      repeat (refine conj.of (by first | omega | decide) ?_; simp (disch := first | assumption | exact Ne.symm (by assumption) | omega) only [hF2, hF3, ↓hla0, ↓hla1, hF5, Int.reduceBEq, ↓ZD, ZU, ZR, Za, Zb, Zc, Zd, Ze, Zf, Zg, Zh, Zi, Zj, Zk, Zl, Zm, Zn, Zo, Zp, Zq, Zr, reduceIte, reduceCtorEq, Zs, Zt, Zu, Zv])
      refine wr_011 (ih 0 x rfl _ le_up b (s ++ [40]) (bad) (by (try simp only [List.length_append, List.length_cons, List.length_nil]); omega)) hpw0 hdw0_1 hdw0_2 fun Hw1 hpw1 hdw1_0 hdw1_1 => ?_
      simp (disch := first | assumption | exact Ne.symm (by assumption) | omega) only [hF2, hF3, ↓hla0, ↓hla1, hF5, Int.reduceBEq, ↓ZD, ZU, ZR, Za, Zb, Zc, Zd, Ze, Zf, Zg, Zh, Zi, Zj, Zk, Zl, Zm, Zn, Zo, Zp, Zq, Zr, reduceIte, reduceCtorEq, Zs, Zt, Zu, Zv]
      refine new_2 fun b6 he6_0 he6_1 hb6 hF6 => ?_
      simp (disch := first | assumption | exact Ne.symm (by assumption) | omega) only [hF2, hF3, ↓hla0, ↓hla1, hF6, Int.reduceBEq, ↓ZD, ZU, ZR, Za, Zb, Zc, Zd, Ze, Zf, Zg, Zh, Zi, Zj, Zk, Zl, Zm, Zn, Zo, Zp, Zq, Zr, reduceIte, reduceCtorEq, Zs, Zt, Zu, Zv]
      refine wr_111 (put1 _ b b6 9 (s ++ [40] ++ pt x) ([32, 45, 32]) _ (by simp [rdObj, hF6, lk]) (by (try simp only [List.length_append, List.length_cons, List.length_nil]); omega)) hpw1 hb6 hdw1_0 hdw1_1 fun Hw2 hpw2 hdw2_0 hdw2_1 hdw2_2 => ?_
      simp (disch := first | assumption | exact Ne.symm (by assumption) | omega) only [hF2, hF3, ↓hla0, ↓hla1, hF6, Int.reduceBEq, ↓ZD, ZU, ZR, Za, Zb, Zc, Zd, Ze, Zf, Zg, Zh, Zi, Zj, Zk, Zl, Zm, Zn, Zo, Zp, Zq, Zr, reduceIte, reduceCtorEq, Zs, Zt, Zu, Zv]
      repeat (refine conj.of (by first | omega | decide) ?_; simp (disch := first | assumption | exact Ne.symm (by assumption) | omega) only [hF2, hF3, ↓hla0, ↓hla1, hF6, Int.reduceBEq, ↓ZD, ZU, ZR, Za, Zb, Zc, Zd, Ze, Zf, Zg, Zh, Zi, Zj, Zk, Zl, Zm, Zn, Zo, Zp, Zq, Zr, reduceIte, reduceCtorEq, Zs, Zt, Zu, Zv])
      refine wr_011 (ih 1 y rfl _ le_up b (s ++ [40] ++ pt x ++ [32, 45, 32]) (bad || !okX x) (by (try simp only [List.length_append, List.length_cons, List.length_nil]); omega)) hpw2 hdw2_1 hdw2_2 fun Hw3 hpw3 hdw3_0 hdw3_1 => ?_
      simp (disch := first | assumption | exact Ne.symm (by assumption) | omega) only [hF2, hF3, ↓hla0, ↓hla1, hF6, Int.reduceBEq, ↓ZD, ZU, ZR, Za, Zb, Zc, Zd, Ze, Zf, Zg, Zh, Zi, Zj, Zk, Zl, Zm, Zn, Zo, Zp, Zq, Zr, reduceIte, reduceCtorEq, Zs, Zt, Zu, Zv]
      refine new_2 fun b7 he7_0 he7_1 hb7 hF7 => ?_
      simp (disch := first | assumption | exact Ne.symm (by assumption) | omega) only [hF2, hF3, ↓hla0, ↓hla1, hF7, Int.reduceBEq, ↓ZD, ZU, ZR, Za, Zb, Zc, Zd, Ze, Zf, Zg, Zh, Zi, Zj, Zk, Zl, Zm, Zn, Zo, Zp, Zq, Zr, reduceIte, reduceCtorEq, Zs, Zt, Zu, Zv]
      refine wr_111 (put1 _ b b7 9 (s ++ [40] ++ pt x ++ [32, 45, 32] ++ pt y) ([41]) _ (by simp [rdObj, hF7, lk]) (by (try simp only [List.length_append, List.length_cons, List.length_nil]); omega)) hpw3 hb7 hdw3_0 hdw3_1 fun Hw4 hpw4 hdw4_0 hdw4_1 hdw4_2 => ?_
      simp (disch := first | assumption | exact Ne.symm (by assumption) | omega) only [hF2, hF3, ↓hla0, ↓hla1, hF7, Int.reduceBEq, ↓ZD, ZU, ZR, Za, Zb, Zc, Zd, Ze, Zf, Zg, Zh, Zi, Zj, Zk, Zl, Zm, Zn, Zo, Zp, Zq, Zr, reduceIte, reduceCtorEq, Zs, Zt, Zu, Zv]
      refine ⟨Hw4, by simp +contextual, ?_⟩
      refine hpw4.cast ?_ ?_
      · simp [pt, har, nodeT, isTwo, signT, methT, ptL]
      · simp [okX, okL, har, nodeOk, litOk]
        cases bad <;> cases okX x <;> cases okX y <;> rfl
    · obtain ⟨x, y, rfl⟩ : ∃ x y, kids = [x, y] := by
        have := hr3 (by decide)
        rw [show kidsI 13 = 2 by decide] at this
        match kids, this with | [x, y], _ => exact ⟨x, y, rfl⟩
      obtain ⟨ba0, oa0, ea0, hla0⟩ := (h1 0 x rfl).ldn
      simp only [Nat.reduceMul, Nat.zero_mul, Nat.add_zero] at hla0
      obtain ⟨ba1, oa1, ea1, hla1⟩ := (h1 1 y rfl).ldn
      simp only [Nat.reduceMul, Nat.zero_mul, Nat.add_zero] at hla1
      subst ea0
      simp only [Option.some.injEq, Addr.mk.injEq, and_true] at ea1
      obtain ⟨rfl, rfl⟩ := ea1
      have har : arOk 13 2 names.length = true := by simpa using har
      rw [show isTwo 13 = true from rfl, if_pos rfl, show signT 13 = [32, 42, 32] from rfl]
      simp only [wtL] at hw
      have hl2 : s.length + ([40] ++ (pt x ++ ([32, 42, 32] ++ (pt y ++ [41])))).length ≤ 100000000000000 := by simpa [pt, har, nodeT, isTwo, signT, methT, ptL] using hl
      simp only [List.length_append, List.length_cons, List.length_nil] at hl2
      simp (disch := first | assumption | exact Ne.symm (by assumption) | omega) only [hF2, hF3, ↓hla0, ↓hla1, getV, Int.reduceBEq, ↓ZD, ZU, ZR, Za, Zb, Zc, Zd, Ze, Zf, Zg, Zh, Zi, Zj, Zk, Zl, Zm, Zn, Zo, Zp, Zq, Zr, reduceIte, reduceCtorEq, Zs, Zt, Zu, Zv]
      refine new_2 fun b5 he5_0 he5_1 hb5 hF5 => ?_
      simp (disch := first | assumption | exact Ne.symm (by assumption) | omega) only [hF2, hF3, ↓hla0, ↓hla1, hF5, Int.reduceBEq, ↓ZD, ZU, ZR, Za, Zb, Zc, Zd, Ze, Zf, Zg, Zh, Zi, Zj, Zk, Zl, Zm, Zn, Zo, Zp, Zq, Zr, reduceIte, reduceCtorEq, Zs, Zt, Zu, Zv]
      refine wr_111 (put1 _ b b5 9 (s) ([40]) _ (by simp [rdObj, hF5, lk]) (by (try simp only [List.length_append, List.length_cons, List.length_nil]); omega)) hp hb5 hb3 hb2 fun Hw0 hpw0 hdw0_0 hdw0_1 hdw0_2 => ?_
      simp (disch := first | assumption | exact Ne.symm (by assumption) | omega) only [hF2, hF3, ↓hla0, ↓hla1, hF5, Int.reduceBEq, ↓ZD, ZU, ZR, Za, Zb, Zc, Zd, Ze, Zf, Zg, Zh, Zi, Zj, Zk, Zl, Zm, Zn, Zo, Zp, Zq, Zr, reduceIte, reduceCtorEq, Zs, Zt, Zu, Zv]
      repeat (refine conj.of (by first | omega | decide) ?_; simp (disch := first | assumption | exact Ne.symm (by assumption) | omega) only [hF2, hF3, ↓hla0, ↓hla1, hF5, Int.reduceBEq, ↓ZD, ZU, ZR, Za, Zb, Zc, Zd, Ze, Zf, Zg, Zh, Zi, Zj, Zk, Zl, Zm, Zn, Zo, Zp, Zq, Zr, reduceIte, reduceCtorEq, Zs, Zt, Zu, Zv])
      refine wr_011 (ih 0 x rfl _ le_up b (s ++ [40]) (bad) (by (try simp only [List.length_append, List.length_cons, List.length_nil]); omega)) hpw0 hdw0_1 hdw0_2 fun Hw1 hpw1 hdw1_0 hdw1_1 => ?_
      simp (disch := first | assumption | exact Ne.symm (by assumption) | omega) only [hF2, hF3, ↓hla0, ↓hla1, hF5, Int.reduceBEq, ↓ZD, ZU, ZR, Za, Zb, Zc, Zd, Ze, Zf, Zg, Zh, Zi, Zj, Zk, Zl, Zm, Zn, Zo, Zp, Zq, Zr, reduceIte, reduceCtorEq, Zs, Zt, Zu, Zv]
      refine new_2 fun b6 he6_0 he6_1 hb6 hF6 => ?_
      simp (disch := first | assumption | exact Ne.symm (by assumption) | omega) only [hF2, hF3, ↓hla0, ↓hla1, hF6, Int.reduceBEq, ↓ZD, ZU, ZR, Za, Zb, Zc, Zd, Ze, Zf, Zg, Zh, Zi, Zj, Zk, Zl, Zm, Zn, Zo, Zp, Zq, Zr, reduceIte, reduceCtorEq, Zs, Zt, Zu, Zv]
      refine wr_111 (put1 _ b b6 9 (s ++ [40] ++ pt x) ([32, 42, 32]) _ (by simp [rdObj, hF6, lk]) (by (try simp only [List.length_append, List.length_cons, List.length_nil]); omega)) hpw1 hb6 hdw1_0 hdw1_1 fun Hw2 hpw2 hdw2_0 hdw2_1 hdw2_2 => ?_
      simp (disch := first | assumption | exact Ne.symm (by assumption) | omega) only [hF2, hF3, ↓hla0, ↓hla1, hF6, Int.reduceBEq, ↓ZD, ZU, ZR, Za, Zb, Zc, Zd, Ze, Zf, Zg, Zh, Zi, Zj, Zk, Zl, Zm, Zn, Zo, Zp, Zq, Zr, reduceIte, reduceCtorEq, Zs, Zt, Zu, Zv]
      repeat (refine conj.of (by first | omega | decide) ?_; simp (disch := first | assumption | exact Ne.symm (by assumption) | omega) only [hF2, hF3, ↓hla0, ↓hla1, hF6, Int.reduceBEq, ↓ZD, ZU, ZR, Za, Zb, Zc, Zd, Ze, Zf, Zg, Zh, Zi, Zj, Zk, Zl, Zm, Zn, Zo, Zp, Zq, Zr, reduceIte, reduceCtorEq, Zs, Zt, Zu, Zv])
      refine wr_011 (ih 1 y rfl _ le_up b (s ++ [40] ++ pt x ++ [32, 42, 32]) (bad || !okX x) (by (try simp only [List.length_append, List.length_cons, List.length_nil]); omega)) hpw2 hdw2_1 hdw2_2 fun Hw3 hpw3 hdw3_0 hdw3_1 => ?_
      simp (disch := first | assumption | exact Ne.symm (by assumption) | omega) only [hF2, hF3, ↓hla0, ↓hla1, hF6, Int.reduceBEq, ↓ZD, ZU, ZR, Za, Zb, Zc, Zd, Ze, Zf, Zg, Zh, Zi, Zj, Zk, Zl, Zm, Zn, Zo, Zp, Zq, Zr, reduceIte, reduceCtorEq, Zs, Zt, Zu, Zv]
      refine new_2 fun b7 he7_0 he7_1 hb7 hF7 => ?_
      simp (disch := first | assumption | exact Ne.symm (by assumption) | omega) only [hF2, hF3, ↓hla0, ↓hla1, hF7, Int.reduceBEq, ↓ZD, ZU, ZR, Za, Zb, Zc, Zd, Ze, Zf, Zg, Zh, Zi, Zj, Zk, Zl, Zm, Zn, Zo, Zp, Zq, Zr, reduceIte, reduceCtorEq, Zs, Zt, Zu, Zv]
      refine wr_111 (put1 _ b b7 9 (s ++ [40] ++ pt x ++ [32, 42, 32] ++ pt y) ([41]) _ (by simp [rdObj, hF7, lk]) (by (try simp only [List.length_append, List.length_cons, List.length_nil]); omega)) hpw3 hb7 hdw3_0 hdw3_1 fun Hw4 hpw4 hdw4_0 hdw4_1 hdw4_2 => ?_
      simp (disch := first | assumption | exact Ne.symm (by assumption) | omega) only [hF2, hF3, ↓hla0, ↓hla1, hF7, Int.reduceBEq, ↓ZD, ZU, ZR, Za, Zb, Zc, Zd, Ze, Zf, Zg, Zh, Zi, Zj, Zk, Zl, Zm, Zn, Zo, Zp, Zq, Zr, reduceIte, reduceCtorEq, Zs, Zt, Zu, Zv]
      refine ⟨Hw4, by simp +contextual, ?_⟩
      refine hpw4.cast ?_ ?_
      · simp [pt, har, nodeT, isTwo, signT, methT, ptL]
      · simp [okX, okL, har, nodeOk, litOk]
        cases bad <;> cases okX x <;> cases okX y <;> rfl
    · obtain ⟨x, rfl⟩ : ∃ x, kids = [x] := by
        have := hr3 (by decide)
        rw [show kidsI 14 = 1 by decide] at this
        match kids, this with | [x], _ => exact ⟨x, rfl⟩
      obtain ⟨ba0, oa0, ea0, hla0⟩ := (h1 0 x rfl).ldn
      simp only [Nat.reduceMul, Nat.zero_mul, Nat.add_zero] at hla0
      subst ea0
      have har : arOk 14 1 names.length = true := by simpa using har
      rw [show isTwo 14 = false from rfl, if_neg (by decide)]
      simp only [wtL] at hw
      have hl2 : s.length + ([45] ++ pt x).length ≤ 100000000000000 := by simpa [pt, har, nodeT, isTwo, signT, methT, ptL] using hl
      simp only [List.length_append, List.length_cons, List.length_nil] at hl2
      simp (disch := first | assumption | exact Ne.symm (by assumption) | omega) only [hF2, hF3, ↓hla0, getV, Int.reduceBEq, ↓ZD, ZU, ZR, Za, Zb, Zc, Zd, Ze, Zf, Zg, Zh, Zi, Zj, Zk, Zl, Zm, Zn, Zo, Zp, Zq, Zr, reduceIte, reduceCtorEq, Zs, Zt, Zu, Zv]
      refine EfL.mkMap fun b5 hb5 hF5 => ?_
      simp only [List.forall_mem_cons] at hb5
      obtain ⟨he5_0, he5_1, hb5⟩ := hb5
      have hu5 : ∀ o, upd H0 b5 o = H0 := fun o => upd_new hb5
      simp (disch := first | assumption | exact Ne.symm (by assumption) | omega) only [hF2, hF3, ↓hla0, hF5, hu5, Int.reduceBEq, ↓ZD, ZU, ZR, Za, Zb, Zc, Zd, Ze, Zf, Zg, Zh, Zi, Zj, Zk, Zl, Zm, Zn, Zo, Zp, Zq, Zr, reduceIte, reduceCtorEq, Zs, Zt, Zu, Zv]
      refine EfL.ins (es := #[]) (c := 0) hF5 (by simp [lk]) rfl ?_
      simp (disch := first | assumption | exact Ne.symm (by assumption) | omega) only [hF2, hF3, ↓hla0, hF5, hu5, Int.reduceBEq, ↓ZD, ZU, ZR, Za, Zb, Zc, Zd, Ze, Zf, Zg, Zh, Zi, Zj, Zk, Zl, Zm, Zn, Zo, Zp, Zq, Zr, reduceIte, reduceCtorEq, Zs, Zt, Zu, Zv]
      refine EfL.ins (es := #[{ key := .int .i64 6, val := .string (bs [33]), born := 0 }]) (c := 1) hF5 (by simp [lk]) rfl ?_
      simp (disch := first | assumption | exact Ne.symm (by assumption) | omega) only [hF2, hF3, ↓hla0, hF5, hu5, Int.reduceBEq, ↓ZD, ZU, ZR, Za, Zb, Zc, Zd, Ze, Zf, Zg, Zh, Zi, Zj, Zk, Zl, Zm, Zn, Zo, Zp, Zq, Zr, reduceIte, reduceCtorEq, Zs, Zt, Zu, Zv]
      refine EfL.get (es := [{ key := .int .i64 6, val := .string (bs [33]), born := 0 }, { key := .int .i64 14, val := .string (bs [45]), born := 1 }]) (by simp [mapEs, rdObj, hF5, lk]) rfl ?_
      simp (disch := first | assumption | exact Ne.symm (by assumption) | omega) only [hF2, hF3, ↓hla0, hF5, hu5, getV, Int.reduceBEq, ↓ZD, ZU, ZR, Za, Zb, Zc, Zd, Ze, Zf, Zg, Zh, Zi, Zj, Zk, Zl, Zm, Zn, Zo, Zp, Zq, Zr, reduceIte, reduceCtorEq, Zs, Zt, Zu, Zv]
      refine new_3 fun b6 he6_0 he6_1 he6_2 hb6 hF6 => ?_
      simp (disch := first | assumption | exact Ne.symm (by assumption) | omega) only [hF2, hF3, ↓hla0, hF6, Int.reduceBEq, ↓ZD, ZU, ZR, Za, Zb, Zc, Zd, Ze, Zf, Zg, Zh, Zi, Zj, Zk, Zl, Zm, Zn, Zo, Zp, Zq, Zr, reduceIte, reduceCtorEq, Zs, Zt, Zu, Zv]
      refine wr_1011 (put1 _ b b6 9 (s) ([45]) _ (by simp [rdObj, hF6, lk]) (by (try simp only [List.length_append, List.length_cons, List.length_nil]); omega)) hp hb6 hb3 hb2 fun Hw0 hpw0 hdw0_0 hdw0_1 hdw0_2 => ?_
      simp (disch := first | assumption | exact Ne.symm (by assumption) | omega) only [hF2, hF3, ↓hla0, hF6, Int.reduceBEq, ↓ZD, ZU, ZR, Za, Zb, Zc, Zd, Ze, Zf, Zg, Zh, Zi, Zj, Zk, Zl, Zm, Zn, Zo, Zp, Zq, Zr, reduceIte, reduceCtorEq, Zs, Zt, Zu, Zv]
      repeat (refine conj.of (by first | omega | decide) ?_; simp (disch := first | assumption | exact Ne.symm (by assumption) | omega) only [hF2, hF3, ↓hla0, hF6, Int.reduceBEq, ↓ZD, ZU, ZR, Za, Zb, Zc, Zd, Ze, Zf, Zg, Zh, Zi, Zj, Zk, Zl, Zm, Zn, Zo, Zp, Zq, Zr, reduceIte, reduceCtorEq, Zs, Zt, Zu, Zv])
      refine wr_011 (ih 0 x rfl _ le_up b (s ++ [45]) (bad) (by (try simp only [List.length_append, List.length_cons, List.length_nil]); omega)) hpw0 hdw0_1 hdw0_2 fun Hw1 hpw1 hdw1_0 hdw1_1 => ?_
      simp (disch := first | assumption | exact Ne.symm (by assumption) | omega) only [hF2, hF3, ↓hla0, hF6, Int.reduceBEq, ↓ZD, ZU, ZR, Za, Zb, Zc, Zd, Ze, Zf, Zg, Zh, Zi, Zj, Zk, Zl, Zm, Zn, Zo, Zp, Zq, Zr, reduceIte, reduceCtorEq, Zs, Zt, Zu, Zv]
      refine ⟨Hw1, by simp +contextual, ?_⟩
      refine hpw1.cast ?_ ?_
      · simp [pt, har, nodeT, isTwo, signT, methT, ptL]
      · simp [okX, okL, har, nodeOk, litOk]
    · obtain ⟨x, y, rfl⟩ : ∃ x y, kids = [x, y] := by
        have := hr3 (by decide)
        rw [show kidsI 15 = 2 by decide] at this
        match kids, this with | [x, y], _ => exact ⟨x, y, rfl⟩
      obtain ⟨ba0, oa0, ea0, hla0⟩ := (h1 0 x rfl).ldn
      simp only [Nat.reduceMul, Nat.zero_mul, Nat.add_zero] at hla0
      obtain ⟨ba1, oa1, ea1, hla1⟩ := (h1 1 y rfl).ldn
      simp only [Nat.reduceMul, Nat.zero_mul, Nat.add_zero] at hla1
      subst ea0
      simp only [Option.some.injEq, Addr.mk.injEq, and_true] at ea1
      obtain ⟨rfl, rfl⟩ := ea1
      have har : arOk 15 2 names.length = true := by simpa using har
      rw [show isTwo 15 = true from rfl, if_pos rfl, show signT 15 = [32, 105, 110, 32] from rfl]
      simp only [wtL] at hw
      have hl2 : s.length + ([40] ++ (pt x ++ ([32, 105, 110, 32] ++ (pt y ++ [41])))).length ≤ 100000000000000 := by simpa [pt, har, nodeT, isTwo, signT, methT, ptL] using hl
      simp only [List.length_append, List.length_cons, List.length_nil] at hl2
      simp (disch := first | assumption | exact Ne.symm (by assumption) | omega) only [hF2, hF3, ↓hla0, ↓hla1, getV, Int.reduceBEq, ↓ZD, ZU, ZR, Za, Zb, Zc, Zd, Ze, Zf, Zg, Zh, Zi, Zj, Zk, Zl, Zm, Zn, Zo, Zp, Zq, Zr, reduceIte, reduceCtorEq, Zs, Zt, Zu, Zv]
      refine new_2 fun b5 he5_0 he5_1 hb5 hF5 => ?_
      simp (disch := first | assumption | exact Ne.symm (by assumption) | omega) only [hF2, hF3, ↓hla0, ↓hla1, hF5, Int.reduceBEq, ↓ZD, ZU, ZR, Za, Zb, Zc, Zd, Ze, Zf, Zg, Zh, Zi, Zj, Zk, Zl, Zm, Zn, Zo, Zp, Zq, Zr, reduceIte, reduceCtorEq, Zs, Zt, Zu, Zv]
      refine wr_111 (put1 _ b b5 9 (s) ([40]) _ (by simp [rdObj, hF5, lk]) (by (try simp only [List.length_append, List.length_cons, List.length_nil]); omega)) hp hb5 hb3 hb2 fun Hw0 hpw0 hdw0_0 hdw0_1 hdw0_2 => ?_
      simp (disch := first | assumption | exact Ne.symm (by assumption) | omega) only [hF2, hF3, ↓hla0, ↓hla1, hF5, Int.reduceBEq, ↓ZD, ZU, ZR, Za, Zb, Zc, Zd, Ze, Zf, Zg, Zh, Zi, Zj, Zk, Zl, Zm, Zn, Zo, Zp, Zq, Zr, reduceIte, reduceCtorEq, Zs, Zt, Zu, Zv]
      repeat (refine conj.of (by first | omega | decide) ?_; simp (disch := first | assumption | exact Ne.symm (by assumption) | omega) only [hF2, hF3, ↓hla0, ↓hla1, hF5, Int.reduceBEq, ↓ZD, ZU, ZR, Za, Zb, Zc, Zd, Ze, Zf, Zg, Zh, Zi, Zj, Zk, Zl, Zm, Zn, Zo, Zp, Zq, Zr, reduceIte, reduceCtorEq, Zs, Zt, Zu, Zv])
      refine wr_011 (ih 0 x rfl _ le_up b (s ++ [40]) (bad) (by (try simp only [List.length_append, List.length_cons, List.length_nil]); omega)) hpw0 hdw0_1 hdw0_2 fun Hw1 hpw1 hdw1_0 hdw1_1 => ?_
      simp (disch := first | assumption | exact Ne.symm (by assumption) | omega) only [hF2, hF3, ↓hla0, ↓hla1, hF5, Int.reduceBEq, ↓ZD, ZU, ZR, Za, Zb, Zc, Zd, Ze, Zf, Zg, Zh, Zi, Zj, Zk, Zl, Zm, Zn, Zo, Zp, Zq, Zr, reduceIte, reduceCtorEq, Zs, Zt, Zu, Zv]
      refine new_2 fun b6 he6_0 he6_1 hb6 hF6 => ?_
      simp (disch := first | assumption | exact Ne.symm (by assumption) | omega) only [hF2, hF3, ↓hla0, ↓hla1, hF6, Int.reduceBEq, ↓ZD, ZU, ZR, Za, Zb, Zc, Zd, Ze, Zf, Zg, Zh, Zi, Zj, Zk, Zl, Zm, Zn, Zo, Zp, Zq, Zr, reduceIte, reduceCtorEq, Zs, Zt, Zu, Zv]
      refine wr_111 (put1 _ b b6 9 (s ++ [40] ++ pt x) ([32, 105, 110, 32]) _ (by simp [rdObj, hF6, lk]) (by (try simp only [List.length_append, List.length_cons, List.length_nil]); omega)) hpw1 hb6 hdw1_0 hdw1_1 fun Hw2 hpw2 hdw2_0 hdw2_1 hdw2_2 => ?_
      simp (disch := first | assumption | exact Ne.symm (by assumption) | omega) only [hF2, hF3, ↓hla0, ↓hla1, hF6, Int.reduceBEq, ↓ZD, ZU, ZR, Za, Zb, Zc, Zd, Ze, Zf, Zg, Zh, Zi, Zj, Zk, Zl, Zm, Zn, Zo, Zp, Zq, Zr, reduceIte, reduceCtorEq, Zs, Zt, Zu, Zv]
      repeat (refine conj.of (by first | omega | decide) ?_; simp (disch := first | assumption | exact Ne.symm (by assumption) | omega) only [hF2, hF3, ↓hla0, ↓hla1, hF6, Int.reduceBEq, ↓ZD, ZU, ZR, Za, Zb, Zc, Zd, Ze, Zf, Zg, Zh, Zi, Zj, Zk, Zl, Zm, Zn, Zo, Zp, Zq, Zr, reduceIte, reduceCtorEq, Zs, Zt, Zu, Zv])
      refine wr_011 (ih 1 y rfl _ le_up b (s ++ [40] ++ pt x ++ [32, 105, 110, 32]) (bad || !okX x) (by (try simp only [List.length_append, List.length_cons, List.length_nil]); omega)) hpw2 hdw2_1 hdw2_2 fun Hw3 hpw3 hdw3_0 hdw3_1 => ?_
      simp (disch := first | assumption | exact Ne.symm (by assumption) | omega) only [hF2, hF3, ↓hla0, ↓hla1, hF6, Int.reduceBEq, ↓ZD, ZU, ZR, Za, Zb, Zc, Zd, Ze, Zf, Zg, Zh, Zi, Zj, Zk, Zl, Zm, Zn, Zo, Zp, Zq, Zr, reduceIte, reduceCtorEq, Zs, Zt, Zu, Zv]
      refine new_2 fun b7 he7_0 he7_1 hb7 hF7 => ?_
      simp (disch := first | assumption | exact Ne.symm (by assumption) | omega) only [hF2, hF3, ↓hla0, ↓hla1, hF7, Int.reduceBEq, ↓ZD, ZU, ZR, Za, Zb, Zc, Zd, Ze, Zf, Zg, Zh, Zi, Zj, Zk, Zl, Zm, Zn, Zo, Zp, Zq, Zr, reduceIte, reduceCtorEq, Zs, Zt, Zu, Zv]
      refine wr_111 (put1 _ b b7 9 (s ++ [40] ++ pt x ++ [32, 105, 110, 32] ++ pt y) ([41]) _ (by simp [rdObj, hF7, lk]) (by (try simp only [List.length_append, List.length_cons, List.length_nil]); omega)) hpw3 hb7 hdw3_0 hdw3_1 fun Hw4 hpw4 hdw4_0 hdw4_1 hdw4_2 => ?_
      simp (disch := first | assumption | exact Ne.symm (by assumption) | omega) only [hF2, hF3, ↓hla0, ↓hla1, hF7, Int.reduceBEq, ↓ZD, ZU, ZR, Za, Zb, Zc, Zd, Ze, Zf, Zg, Zh, Zi, Zj, Zk, Zl, Zm, Zn, Zo, Zp, Zq, Zr, reduceIte, reduceCtorEq, Zs, Zt, Zu, Zv]
      refine ⟨Hw4, by simp +contextual, ?_⟩
      refine hpw4.cast ?_ ?_
      · simp [pt, har, nodeT, isTwo, signT, methT, ptL]
      · simp [okX, okL, har, nodeOk, litOk]
        cases bad <;> cases okX x <;> cases okX y <;> rfl
    · obtain ⟨x, rfl⟩ : ∃ x, kids = [x] := by
        have := hr3 (by decide)
        rw [show kidsI 16 = 1 by decide] at this
        match kids, this with | [x], _ => exact ⟨x, rfl⟩
      obtain ⟨ba0, oa0, ea0, hla0⟩ := (h1 0 x rfl).ldn
      simp only [Nat.reduceMul, Nat.zero_mul, Nat.add_zero] at hla0
      subst ea0
      have har : arOk 16 1 names.length = true := by simpa using har
      rw [show isTwo 16 = false from rfl, if_neg (by decide)]
      simp only [wtL] at hw
      have hl2 : s.length + ([40] ++ (pt x ++ ([32, 105, 115, 32] ++ (nm ++ [41])))).length ≤ 100000000000000 := by simpa [pt, har, nodeT, isTwo, signT, methT, ptL] using hl
      simp only [List.length_append, List.length_cons, List.length_nil] at hl2
      simp (disch := first | assumption | exact Ne.symm (by assumption) | omega) only [hF2, hF3, ↓hla0, getV, Int.reduceBEq, ↓ZD, ZU, ZR, Za, Zb, Zc, Zd, Ze, Zf, Zg, Zh, Zi, Zj, Zk, Zl, Zm, Zn, Zo, Zp, Zq, Zr, reduceIte, reduceCtorEq, Zs, Zt, Zu, Zv]
      refine new_2 fun b5 he5_0 he5_1 hb5 hF5 => ?_
      simp (disch := first | assumption | exact Ne.symm (by assumption) | omega) only [hF2, hF3, ↓hla0, hF5, Int.reduceBEq, ↓ZD, ZU, ZR, Za, Zb, Zc, Zd, Ze, Zf, Zg, Zh, Zi, Zj, Zk, Zl, Zm, Zn, Zo, Zp, Zq, Zr, reduceIte, reduceCtorEq, Zs, Zt, Zu, Zv]
      refine wr_111 (put1 _ b b5 9 (s) ([40]) _ (by simp [rdObj, hF5, lk]) (by (try simp only [List.length_append, List.length_cons, List.length_nil]); omega)) hp hb5 hb3 hb2 fun Hw0 hpw0 hdw0_0 hdw0_1 hdw0_2 => ?_
      simp (disch := first | assumption | exact Ne.symm (by assumption) | omega) only [hF2, hF3, ↓hla0, hF5, Int.reduceBEq, ↓ZD, ZU, ZR, Za, Zb, Zc, Zd, Ze, Zf, Zg, Zh, Zi, Zj, Zk, Zl, Zm, Zn, Zo, Zp, Zq, Zr, reduceIte, reduceCtorEq, Zs, Zt, Zu, Zv]
      repeat (refine conj.of (by first | omega | decide) ?_; simp (disch := first | assumption | exact Ne.symm (by assumption) | omega) only [hF2, hF3, ↓hla0, hF5, Int.reduceBEq, ↓ZD, ZU, ZR, Za, Zb, Zc, Zd, Ze, Zf, Zg, Zh, Zi, Zj, Zk, Zl, Zm, Zn, Zo, Zp, Zq, Zr, reduceIte, reduceCtorEq, Zs, Zt, Zu, Zv])
      refine wr_011 (ih 0 x rfl _ le_up b (s ++ [40]) (bad) (by (try simp only [List.length_append, List.length_cons, List.length_nil]); omega)) hpw0 hdw0_1 hdw0_2 fun Hw1 hpw1 hdw1_0 hdw1_1 => ?_
      simp (disch := first | assumption | exact Ne.symm (by assumption) | omega) only [hF2, hF3, ↓hla0, hF5, Int.reduceBEq, ↓ZD, ZU, ZR, Za, Zb, Zc, Zd, Ze, Zf, Zg, Zh, Zi, Zj, Zk, Zl, Zm, Zn, Zo, Zp, Zq, Zr, reduceIte, reduceCtorEq, Zs, Zt, Zu, Zv]
      refine new_2 fun b6 he6_0 he6_1 hb6 hF6 => ?_
      simp (disch := first | assumption | exact Ne.symm (by assumption) | omega) only [hF2, hF3, ↓hla0, hF6, Int.reduceBEq, ↓ZD, ZU, ZR, Za, Zb, Zc, Zd, Ze, Zf, Zg, Zh, Zi, Zj, Zk, Zl, Zm, Zn, Zo, Zp, Zq, Zr, reduceIte, reduceCtorEq, Zs, Zt, Zu, Zv]
      refine wr_111 (put1 _ b b6 9 (s ++ [40] ++ pt x) ([32, 105, 115, 32]) _ (by simp [rdObj, hF6, lk]) (by (try simp only [List.length_append, List.length_cons, List.length_nil]); omega)) hpw1 hb6 hdw1_0 hdw1_1 fun Hw2 hpw2 hdw2_0 hdw2_1 hdw2_2 => ?_
      simp (disch := first | assumption | exact Ne.symm (by assumption) | omega) only [hF2, hF3, ↓hla0, hF6, Int.reduceBEq, ↓ZD, ZU, ZR, Za, Zb, Zc, Zd, Ze, Zf, Zg, Zh, Zi, Zj, Zk, Zl, Zm, Zn, Zo, Zp, Zq, Zr, reduceIte, reduceCtorEq, Zs, Zt, Zu, Zv]
      refine wr_011 (path_wr _ (hM.mono le_up) b (s ++ [40] ++ pt x ++ [32, 105, 115, 32]) (bad || !okX x) nm (by (try simp only [List.length_append, List.length_cons, List.length_nil]); omega) (by omega)) hpw2 hdw2_1 hdw2_2 fun Hw3 hpw3 hdw3_0 hdw3_1 => ?_
      simp (disch := first | assumption | exact Ne.symm (by assumption) | omega) only [hF2, hF3, ↓hla0, hF6, Int.reduceBEq, ↓ZD, ZU, ZR, Za, Zb, Zc, Zd, Ze, Zf, Zg, Zh, Zi, Zj, Zk, Zl, Zm, Zn, Zo, Zp, Zq, Zr, reduceIte, reduceCtorEq, Zs, Zt, Zu, Zv]
      refine new_2 fun b7 he7_0 he7_1 hb7 hF7 => ?_
      simp (disch := first | assumption | exact Ne.symm (by assumption) | omega) only [hF2, hF3, ↓hla0, hF7, Int.reduceBEq, ↓ZD, ZU, ZR, Za, Zb, Zc, Zd, Ze, Zf, Zg, Zh, Zi, Zj, Zk, Zl, Zm, Zn, Zo, Zp, Zq, Zr, reduceIte, reduceCtorEq, Zs, Zt, Zu, Zv]
      refine wr_111 (put1 _ b b7 9 (s ++ [40] ++ pt x ++ [32, 105, 115, 32] ++ nm) ([41]) _ (by simp [rdObj, hF7, lk]) (by (try simp only [List.length_append, List.length_cons, List.length_nil]); omega)) hpw3 hb7 hdw3_0 hdw3_1 fun Hw4 hpw4 hdw4_0 hdw4_1 hdw4_2 => ?_
      simp (disch := first | assumption | exact Ne.symm (by assumption) | omega) only [hF2, hF3, ↓hla0, hF7, Int.reduceBEq, ↓ZD, ZU, ZR, Za, Zb, Zc, Zd, Ze, Zf, Zg, Zh, Zi, Zj, Zk, Zl, Zm, Zn, Zo, Zp, Zq, Zr, reduceIte, reduceCtorEq, Zs, Zt, Zu, Zv]
      refine ⟨Hw4, by simp +contextual, ?_⟩
      refine hpw4.cast ?_ ?_
      · simp [pt, har, nodeT, isTwo, signT, methT, ptL]
      · simp [okX, okL, har, nodeOk, litOk]
        cases bad <;> cases okX x <;> cases okPath nm <;> rfl
    · obtain ⟨x, rfl⟩ : ∃ x, kids = [x] := by
        have := hr3 (by decide)
        rw [show kidsI 17 = 1 by decide] at this
        match kids, this with | [x], _ => exact ⟨x, rfl⟩
      obtain ⟨ba0, oa0, ea0, hla0⟩ := (h1 0 x rfl).ldn
      simp only [Nat.reduceMul, Nat.zero_mul, Nat.add_zero] at hla0
      subst ea0
      have har : arOk 17 1 names.length = true := by simpa using har
      rw [show isTwo 17 = false from rfl, if_neg (by decide)]
      simp only [wtL] at hw
      have hl2 : s.length + ([40] ++ (pt x ++ ([32, 104, 97, 115, 32] ++ (nm ++ [41])))).length ≤ 100000000000000 := by simpa [pt, har, nodeT, isTwo, signT, methT, ptL] using hl
      simp only [List.length_append, List.length_cons, List.length_nil] at hl2
      simp (disch := first | assumption | exact Ne.symm (by assumption) | omega) only [hF2, hF3, ↓hla0, getV, Int.reduceBEq, ↓ZD, ZU, ZR, Za, Zb, Zc, Zd, Ze, Zf, Zg, Zh, Zi, Zj, Zk, Zl, Zm, Zn, Zo, Zp, Zq, Zr, reduceIte, reduceCtorEq, Zs, Zt, Zu, Zv]
      refine CallQ.of _ (name_pure _ nm (by omega)) ?_
      simp (disch := first | assumption | exact Ne.symm (by assumption) | omega) only [hF2, hF3, ↓hla0, Int.reduceBEq, ↓ZD, ZU, ZR, Za, Zb, Zc, Zd, Ze, Zf, Zg, Zh, Zi, Zj, Zk, Zl, Zm, Zn, Zo, Zp, Zq, Zr, reduceIte, reduceCtorEq, Zs, Zt, Zu, Zv]
      refine wr_11 (must_wr _ b s bad (nameB nm)) hp hb3 hb2 fun Hw0 hpw0 hdw0_0 hdw0_1 => ?_
      simp (disch := first | assumption | exact Ne.symm (by assumption) | omega) only [hF2, hF3, ↓hla0, Int.reduceBEq, ↓ZD, ZU, ZR, Za, Zb, Zc, Zd, Ze, Zf, Zg, Zh, Zi, Zj, Zk, Zl, Zm, Zn, Zo, Zp, Zq, Zr, reduceIte, reduceCtorEq, Zs, Zt, Zu, Zv]
      refine new_2 fun b5 he5_0 he5_1 hb5 hF5 => ?_
      simp (disch := first | assumption | exact Ne.symm (by assumption) | omega) only [hF2, hF3, ↓hla0, hF5, Int.reduceBEq, ↓ZD, ZU, ZR, Za, Zb, Zc, Zd, Ze, Zf, Zg, Zh, Zi, Zj, Zk, Zl, Zm, Zn, Zo, Zp, Zq, Zr, reduceIte, reduceCtorEq, Zs, Zt, Zu, Zv]
      refine wr_111 (put1 _ b b5 9 (s) ([40]) _ (by simp [rdObj, hF5, lk]) (by (try simp only [List.length_append, List.length_cons, List.length_nil]); omega)) hpw0 hb5 hdw0_0 hdw0_1 fun Hw1 hpw1 hdw1_0 hdw1_1 hdw1_2 => ?_
      simp (disch := first | assumption | exact Ne.symm (by assumption) | omega) only [hF2, hF3, ↓hla0, hF5, Int.reduceBEq, ↓ZD, ZU, ZR, Za, Zb, Zc, Zd, Ze, Zf, Zg, Zh, Zi, Zj, Zk, Zl, Zm, Zn, Zo, Zp, Zq, Zr, reduceIte, reduceCtorEq, Zs, Zt, Zu, Zv]
      repeat (refine conj.of (by first | omega | decide) ?_; simp (disch := first | assumption | exact Ne.symm (by assumption) | omega) only [hF2, hF3, ↓hla0, hF5, Int.reduceBEq, ↓ZD, ZU, ZR, Za, Zb, Zc, Zd, Ze, Zf, Zg, Zh, Zi, Zj, Zk, Zl, Zm, Zn, Zo, Zp, Zq, Zr, reduceIte, reduceCtorEq, Zs, Zt, Zu, Zv])
      refine wr_011 (ih 0 x rfl _ le_up b (s ++ [40]) (bad || !nameB nm) (by (try simp only [List.length_append, List.length_cons, List.length_nil]); omega)) hpw1 hdw1_1 hdw1_2 fun Hw2 hpw2 hdw2_0 hdw2_1 => ?_
      simp (disch := first | assumption | exact Ne.symm (by assumption) | omega) only [hF2, hF3, ↓hla0, hF5, Int.reduceBEq, ↓ZD, ZU, ZR, Za, Zb, Zc, Zd, Ze, Zf, Zg, Zh, Zi, Zj, Zk, Zl, Zm, Zn, Zo, Zp, Zq, Zr, reduceIte, reduceCtorEq, Zs, Zt, Zu, Zv]
      refine new_2 fun b6 he6_0 he6_1 hb6 hF6 => ?_
      simp (disch := first | assumption | exact Ne.symm (by assumption) | omega) only [hF2, hF3, ↓hla0, hF6, Int.reduceBEq, ↓ZD, ZU, ZR, Za, Zb, Zc, Zd, Ze, Zf, Zg, Zh, Zi, Zj, Zk, Zl, Zm, Zn, Zo, Zp, Zq, Zr, reduceIte, reduceCtorEq, Zs, Zt, Zu, Zv]
      refine wr_111 (put3 _ b b6 9 (s ++ [40] ++ pt x) ([32, 104, 97, 115, 32]) (nm) ([41]) _ (by simp [rdObj, hF6, lk]) (by (try simp only [List.length_append, List.length_cons, List.length_nil]); omega)) hpw2 hb6 hdw2_0 hdw2_1 fun Hw3 hpw3 hdw3_0 hdw3_1 hdw3_2 => ?_
      simp (disch := first | assumption | exact Ne.symm (by assumption) | omega) only [hF2, hF3, ↓hla0, hF6, Int.reduceBEq, ↓ZD, ZU, ZR, Za, Zb, Zc, Zd, Ze, Zf, Zg, Zh, Zi, Zj, Zk, Zl, Zm, Zn, Zo, Zp, Zq, Zr, reduceIte, reduceCtorEq, Zs, Zt, Zu, Zv]
      refine ⟨Hw3, by simp +contextual, ?_⟩
      refine hpw3.cast ?_ ?_
      · simp [pt, har, nodeT, isTwo, signT, methT, ptL]
      · simp [okX, okL, har, nodeOk, litOk]
        cases bad <;> cases okX x <;> cases nameB nm <;> rfl
    · obtain ⟨x, rfl⟩ : ∃ x, kids = [x] := by
        have := hr3 (by decide)
        rw [show kidsI 18 = 1 by decide] at this
        match kids, this with | [x], _ => exact ⟨x, rfl⟩
      obtain ⟨ba0, oa0, ea0, hla0⟩ := (h1 0 x rfl).ldn
      simp only [Nat.reduceMul, Nat.zero_mul, Nat.add_zero] at hla0
      subst ea0
      have har : arOk 18 1 names.length = true := by simpa using har
      rw [show isTwo 18 = false from rfl, if_neg (by decide)]
      simp only [wtL] at hw
      have hql := quote_len nm
      simp (disch := first | assumption | exact Ne.symm (by assumption) | omega) only [hF2, hF3, ↓hla0, getV, Int.reduceBEq, ↓ZD, ZU, ZR, Za, Zb, Zc, Zd, Ze, Zf, Zg, Zh, Zi, Zj, Zk, Zl, Zm, Zn, Zo, Zp, Zq, Zr, reduceIte, reduceCtorEq, Zs, Zt, Zu, Zv]
      have ho2 := own1_len x.op (pt x)
      have hp2 := pt_len (r1 0 x rfl)
      have hl2 : s.length + ((own1 x.op (pt x)).length + (if nameB nm then 46 :: nm else 91 :: (quote nm ++ [93])).length) ≤ 100000000000000 := by simpa [pt, har, nodeT, isTwo, signT, methT, ptL] using hl
      repeat (refine conj.of (by first | omega | decide) ?_; simp (disch := first | assumption | exact Ne.symm (by assumption) | omega) only [hF2, hF3, ↓hla0, Int.reduceBEq, ↓ZD, ZU, ZR, Za, Zb, Zc, Zd, Ze, Zf, Zg, Zh, Zi, Zj, Zk, Zl, Zm, Zn, Zo, Zp, Zq, Zr, reduceIte, reduceCtorEq, Zs, Zt, Zu, Zv])
      refine wr_11 (owner_wr _ b (s) (bad) ((r1 0 x rfl).mono le_up) ((ih 0 x rfl).mono le_up) (by (try simp only [List.length_append, List.length_cons, List.length_nil]); omega)) hp hb3 hb2 fun Hw0 hpw0 hdw0_0 hdw0_1 => ?_
      simp (disch := first | assumption | exact Ne.symm (by assumption) | omega) only [hF2, hF3, ↓hla0, Int.reduceBEq, ↓ZD, ZU, ZR, Za, Zb, Zc, Zd, Ze, Zf, Zg, Zh, Zi, Zj, Zk, Zl, Zm, Zn, Zo, Zp, Zq, Zr, reduceIte, reduceCtorEq, Zs, Zt, Zu, Zv]
      refine CallE.pure (name_pure _ nm (by omega)) ?_
      simp (disch := first | assumption | exact Ne.symm (by assumption) | omega) only [hF2, hF3, ↓hla0, Int.reduceBEq, ↓ZD, ZU, ZR, Za, Zb, Zc, Zd, Ze, Zf, Zg, Zh, Zi, Zj, Zk, Zl, Zm, Zn, Zo, Zp, Zq, Zr, reduceIte, reduceCtorEq, Zs, Zt, Zu, Zv]
      refine ⟨fun hnb => ?_, fun hnb => ?_⟩
      · rw [hnb, if_pos rfl] at hl2
        simp only [List.length_cons] at hl2
        refine new_2 fun b5 he5_0 he5_1 hb5 hF5 => ?_
        simp (disch := first | assumption | exact Ne.symm (by assumption) | omega) only [hF2, hF3, ↓hla0, hF5, Int.reduceBEq, ↓ZD, ZU, ZR, Za, Zb, Zc, Zd, Ze, Zf, Zg, Zh, Zi, Zj, Zk, Zl, Zm, Zn, Zo, Zp, Zq, Zr, reduceIte, reduceCtorEq, Zs, Zt, Zu, Zv]
        refine wr_111 (put2 _ b b5 9 (s ++ own1 x.op (pt x)) ([46]) (nm) _ (by simp [rdObj, hF5, lk]) (by (try simp only [List.length_append, List.length_cons, List.length_nil]); omega)) hpw0 hb5 hdw0_0 hdw0_1 fun Hw1 hpw1 hdw1_0 hdw1_1 hdw1_2 => ?_
        simp (disch := first | assumption | exact Ne.symm (by assumption) | omega) only [hF2, hF3, ↓hla0, hF5, Int.reduceBEq, ↓ZD, ZU, ZR, Za, Zb, Zc, Zd, Ze, Zf, Zg, Zh, Zi, Zj, Zk, Zl, Zm, Zn, Zo, Zp, Zq, Zr, reduceIte, reduceCtorEq, Zs, Zt, Zu, Zv]
        refine ⟨Hw1, by simp +contextual, ?_⟩
        refine hpw1.cast ?_ ?_
        · simp [pt, har, nodeT, isTwo, signT, methT, ptL, hnb]
        · simp [okX, okL, har, nodeOk, litOk, hnb]
      · rw [hnb, if_neg (by decide)] at hl2
        simp only [List.length_append, List.length_cons, List.length_nil] at hl2
        try (simp (disch := first | assumption | exact Ne.symm (by assumption) | omega) only [hF2, hF3, ↓hla0, Int.reduceBEq, ↓ZD, ZU, ZR, Za, Zb, Zc, Zd, Ze, Zf, Zg, Zh, Zi, Zj, Zk, Zl, Zm, Zn, Zo, Zp, Zq, Zr, reduceIte, reduceCtorEq, Zs, Zt, Zu, Zv])
        refine CallQ.of _ (quote_pure _ nm (by omega)) ?_
        simp (disch := first | assumption | exact Ne.symm (by assumption) | omega) only [hF2, hF3, ↓hla0, Int.reduceBEq, ↓ZD, ZU, ZR, Za, Zb, Zc, Zd, Ze, Zf, Zg, Zh, Zi, Zj, Zk, Zl, Zm, Zn, Zo, Zp, Zq, Zr, reduceIte, reduceCtorEq, Zs, Zt, Zu, Zv]
        refine new_2 fun b5 he5_0 he5_1 hb5 hF5 => ?_
        simp (disch := first | assumption | exact Ne.symm (by assumption) | omega) only [hF2, hF3, ↓hla0, hF5, Int.reduceBEq, ↓ZD, ZU, ZR, Za, Zb, Zc, Zd, Ze, Zf, Zg, Zh, Zi, Zj, Zk, Zl, Zm, Zn, Zo, Zp, Zq, Zr, reduceIte, reduceCtorEq, Zs, Zt, Zu, Zv]
        refine wr_111 (put3 _ b b5 9 (s ++ own1 x.op (pt x)) ([91]) ((quote nm)) ([93]) _ (by simp [rdObj, hF5, lk]) (by (try simp only [List.length_append, List.length_cons, List.length_nil]); omega)) hpw0 hb5 hdw0_0 hdw0_1 fun Hw1 hpw1 hdw1_0 hdw1_1 hdw1_2 => ?_
        simp (disch := first | assumption | exact Ne.symm (by assumption) | omega) only [hF2, hF3, ↓hla0, hF5, Int.reduceBEq, ↓ZD, ZU, ZR, Za, Zb, Zc, Zd, Ze, Zf, Zg, Zh, Zi, Zj, Zk, Zl, Zm, Zn, Zo, Zp, Zq, Zr, reduceIte, reduceCtorEq, Zs, Zt, Zu, Zv]
        refine ⟨Hw1, by simp +contextual, ?_⟩
        refine hpw1.cast ?_ ?_
        · simp [pt, har, nodeT, isTwo, signT, methT, ptL, hnb]
        · simp [okX, okL, har, nodeOk, litOk, hnb]
    · have har : arOk 19 kids.length names.length = true := by simpa using har
      rw [show isTwo 19 = false from rfl, if_neg (by decide)]
      have eQ : ahQ = fun _ => [] := rfl
      have hl2 : s.length + ([91] ++ (rowT ahQ 0 (ptL kids) ++ [93])).length ≤ 100000000000000 := by simpa [pt, har, nodeT, isTwo, eQ] using hl
      simp only [List.length_append, List.length_cons, List.length_nil] at hl2
      simp (disch := first | assumption | exact Ne.symm (by assumption) | omega) only [hF2, hF3, getV, Int.reduceBEq, ↓ZD, ZU, ZR, Za, Zb, Zc, Zd, Ze, Zf, Zg, Zh, Zi, Zj, Zk, Zl, Zm, Zn, Zo, Zp, Zq, Zr, reduceIte, reduceCtorEq, Zs, Zt, Zu, Zv]
      refine new_2 fun b5 he5_0 he5_1 hb5 hF5 => ?_
      simp (disch := first | assumption | exact Ne.symm (by assumption) | omega) only [hF2, hF3, hF5, Int.reduceBEq, ↓ZD, ZU, ZR, Za, Zb, Zc, Zd, Ze, Zf, Zg, Zh, Zi, Zj, Zk, Zl, Zm, Zn, Zo, Zp, Zq, Zr, reduceIte, reduceCtorEq, Zs, Zt, Zu, Zv]
      refine wr_111 (put1 _ b b5 9 (s) ([91]) _ (by simp [rdObj, hF5, lk]) (by (try simp only [List.length_append, List.length_cons, List.length_nil]); omega)) hp hb5 hb3 hb2 fun Hw0 hpw0 hdw0_0 hdw0_1 hdw0_2 => ?_
      simp (disch := first | assumption | exact Ne.symm (by assumption) | omega) only [hF2, hF3, hF5, Int.reduceBEq, ↓ZD, ZU, ZR, Za, Zb, Zc, Zd, Ze, Zf, Zg, Zh, Zi, Zj, Zk, Zl, Zm, Zn, Zo, Zp, Zq, Zr, reduceIte, reduceCtorEq, Zs, Zt, Zu, Zv]
      refine wr_011 (row_wr _ b (s ++ [91]) (bad) (ahQ_aw _ b _) hc1 hl1 (fun i t h => (h1 i t h).mono le_up) (fun i t h => (r1 i t h).mono le_up) (fun i t h => (ih i t h).mono le_up) (by (try simp only [List.length_append, List.length_cons, List.length_nil]); omega)) hpw0 hdw0_1 hdw0_2 fun Hw1 hpw1 hdw1_0 hdw1_1 => ?_
      simp (disch := first | assumption | exact Ne.symm (by assumption) | omega) only [hF2, hF3, hF5, Int.reduceBEq, ↓ZD, ZU, ZR, Za, Zb, Zc, Zd, Ze, Zf, Zg, Zh, Zi, Zj, Zk, Zl, Zm, Zn, Zo, Zp, Zq, Zr, reduceIte, reduceCtorEq, Zs, Zt, Zu, Zv]
      refine new_2 fun b6 he6_0 he6_1 hb6 hF6 => ?_
      simp (disch := first | assumption | exact Ne.symm (by assumption) | omega) only [hF2, hF3, hF6, Int.reduceBEq, ↓ZD, ZU, ZR, Za, Zb, Zc, Zd, Ze, Zf, Zg, Zh, Zi, Zj, Zk, Zl, Zm, Zn, Zo, Zp, Zq, Zr, reduceIte, reduceCtorEq, Zs, Zt, Zu, Zv]
      refine wr_111 (put1 _ b b6 9 (s ++ [91] ++ rowT ahQ 0 (ptL kids)) ([93]) _ (by simp [rdObj, hF6, lk]) (by (try simp only [List.length_append, List.length_cons, List.length_nil]); omega)) hpw1 hb6 hdw1_0 hdw1_1 fun Hw2 hpw2 hdw2_0 hdw2_1 hdw2_2 => ?_
      simp (disch := first | assumption | exact Ne.symm (by assumption) | omega) only [hF2, hF3, hF6, Int.reduceBEq, ↓ZD, ZU, ZR, Za, Zb, Zc, Zd, Ze, Zf, Zg, Zh, Zi, Zj, Zk, Zl, Zm, Zn, Zo, Zp, Zq, Zr, reduceIte, reduceCtorEq, Zs, Zt, Zu, Zv]
      refine ⟨Hw2, by simp +contextual, ?_⟩
      refine hpw2.cast ?_ ?_
      · simp [pt, har, nodeT, isTwo, signT, methT, ptL, eQ]
      · simp [okX, okL, har, nodeOk, litOk, eQ]
    · rw [show isTwo 20 = false from rfl, if_neg (by decide)]
      have hsm : ∀ x ∈ names, Sm x := fun x hx => by have := sum_mem' hx; unfold Sm; omega
      by_cases hnn : names.length = kids.length
      · have har : arOk 20 kids.length names.length = true := by rw [har, hnn]; simp
        have hnb : ((names.length : Int) != (kids.length : Int)) = false := by rw [hnn]; simp
        have eQ : ahN names = fun i => quote (names.getD i []) ++ [58, 32] := rfl
        have hl2 : s.length + ([123] ++ (rowT (ahN names) 0 (ptL kids) ++ [125])).length ≤ 100000000000000 := by simpa [pt, har, nodeT, isTwo, eQ] using hl
        simp only [List.length_append, List.length_cons, List.length_nil] at hl2
        simp (disch := first | assumption | exact Ne.symm (by assumption) | omega) only [hF2, hF3, getV, hnb, Int.reduceBEq, ↓ZD, ZU, ZR, Za, Zb, Zc, Zd, Ze, Zf, Zg, Zh, Zi, Zj, Zk, Zl, Zm, Zn, Zo, Zp, Zq, Zr, reduceIte, reduceCtorEq, Zs, Zt, Zu, Zv]
        refine new_2 fun b5 he5_0 he5_1 hb5 hF5 => ?_
        simp (disch := first | assumption | exact Ne.symm (by assumption) | omega) only [hF2, hF3, hF5, Int.reduceBEq, ↓ZD, ZU, ZR, Za, Zb, Zc, Zd, Ze, Zf, Zg, Zh, Zi, Zj, Zk, Zl, Zm, Zn, Zo, Zp, Zq, Zr, reduceIte, reduceCtorEq, Zs, Zt, Zu, Zv]
        refine wr_111 (put1 _ b b5 9 (s) ([123]) _ (by simp [rdObj, hF5, lk]) (by (try simp only [List.length_append, List.length_cons, List.length_nil]); omega)) hp hb5 hb3 hb2 fun Hw0 hpw0 hdw0_0 hdw0_1 hdw0_2 => ?_
        simp (disch := first | assumption | exact Ne.symm (by assumption) | omega) only [hF2, hF3, hF5, Int.reduceBEq, ↓ZD, ZU, ZR, Za, Zb, Zc, Zd, Ze, Zf, Zg, Zh, Zi, Zj, Zk, Zl, Zm, Zn, Zo, Zp, Zq, Zr, reduceIte, reduceCtorEq, Zs, Zt, Zu, Zv]
        refine wr_011 (row_wr _ b (s ++ [123]) (bad) (hnn ▸ ahN_aw _ b b2 b3 51 (op := 20) (v := v) (u1 := .slice d1 d2 d3) (u2 := .slice d4 d5 d6) (nm := nm) (vk := .slice a1 kids.length c1) (hN0.mono le_up) hsm (by simp [rdObj, hF2, lk, hb23, Ne.symm hb23]) (by simp [rdObj, hF3, lk, hb23, xcells])) hc1 hl1 (fun i t h => (h1 i t h).mono le_up) (fun i t h => (r1 i t h).mono le_up) (fun i t h => (ih i t h).mono le_up) (by (try simp only [List.length_append, List.length_cons, List.length_nil]); omega)) hpw0 hdw0_1 hdw0_2 fun Hw1 hpw1 hdw1_0 hdw1_1 => ?_
        simp (disch := first | assumption | exact Ne.symm (by assumption) | omega) only [hF2, hF3, hF5, Int.reduceBEq, ↓ZD, ZU, ZR, Za, Zb, Zc, Zd, Ze, Zf, Zg, Zh, Zi, Zj, Zk, Zl, Zm, Zn, Zo, Zp, Zq, Zr, reduceIte, reduceCtorEq, Zs, Zt, Zu, Zv]
        refine new_2 fun b6 he6_0 he6_1 hb6 hF6 => ?_
        simp (disch := first | assumption | exact Ne.symm (by assumption) | omega) only [hF2, hF3, hF6, Int.reduceBEq, ↓ZD, ZU, ZR, Za, Zb, Zc, Zd, Ze, Zf, Zg, Zh, Zi, Zj, Zk, Zl, Zm, Zn, Zo, Zp, Zq, Zr, reduceIte, reduceCtorEq, Zs, Zt, Zu, Zv]
        refine wr_111 (put1 _ b b6 9 (s ++ [123] ++ rowT (ahN names) 0 (ptL kids)) ([125]) _ (by simp [rdObj, hF6, lk]) (by (try simp only [List.length_append, List.length_cons, List.length_nil]); omega)) hpw1 hb6 hdw1_0 hdw1_1 fun Hw2 hpw2 hdw2_0 hdw2_1 hdw2_2 => ?_
        simp (disch := first | assumption | exact Ne.symm (by assumption) | omega) only [hF2, hF3, hF6, Int.reduceBEq, ↓ZD, ZU, ZR, Za, Zb, Zc, Zd, Ze, Zf, Zg, Zh, Zi, Zj, Zk, Zl, Zm, Zn, Zo, Zp, Zq, Zr, reduceIte, reduceCtorEq, Zs, Zt, Zu, Zv]
        refine ⟨Hw2, by simp +contextual, ?_⟩
        refine hpw2.cast ?_ ?_
        · simp [pt, har, nodeT, isTwo, signT, methT, ptL, eQ]
        · simp [okX, okL, har, nodeOk, litOk, eQ]
      · have har : arOk 20 kids.length names.length = false := by rw [har]; simp; omega
        have hnb : ((names.length : Int) != (kids.length : Int)) = true := by simp; omega
        simp (disch := first | assumption | exact Ne.symm (by assumption) | omega) only [hF2, hF3, getV, hnb, Int.reduceBEq, ↓ZD, ZU, ZR, Za, Zb, Zc, Zd, Ze, Zf, Zg, Zh, Zi, Zj, Zk, Zl, Zm, Zn, Zo, Zp, Zq, Zr, reduceIte, reduceCtorEq, Zs, Zt, Zu, Zv]
        refine wr_11 (must_wr _ b s bad false) hp hb3 hb2 fun Hw0 hpw0 hdw0_0 hdw0_1 => ?_
        simp (disch := first | assumption | exact Ne.symm (by assumption) | omega) only [hF2, hF3, Int.reduceBEq, ↓ZD, ZU, ZR, Za, Zb, Zc, Zd, Ze, Zf, Zg, Zh, Zi, Zj, Zk, Zl, Zm, Zn, Zo, Zp, Zq, Zr, reduceIte, reduceCtorEq, Zs, Zt, Zu, Zv]
        refine ⟨Hw0, by simp +contextual, ?_⟩
        refine hpw0.cast ?_ ?_
        · simp [pt, har, nodeT, isTwo, signT, methT, ptL]
        · simp [okX, okL, har, nodeOk, litOk]
    · obtain ⟨x, y, rfl⟩ : ∃ x y, kids = [x, y] := by
        have := hr3 (by decide)
        rw [show kidsI 21 = 2 by decide] at this
        match kids, this with | [x, y], _ => exact ⟨x, y, rfl⟩
      obtain ⟨ba0, oa0, ea0, hla0⟩ := (h1 0 x rfl).ldn
      simp only [Nat.reduceMul, Nat.zero_mul, Nat.add_zero] at hla0
      obtain ⟨ba1, oa1, ea1, hla1⟩ := (h1 1 y rfl).ldn
      simp only [Nat.reduceMul, Nat.zero_mul, Nat.add_zero] at hla1
      subst ea0
      simp only [Option.some.injEq, Addr.mk.injEq, and_true] at ea1
      obtain ⟨rfl, rfl⟩ := ea1
      have har : arOk 21 2 names.length = true := by simpa using har
      rw [show isTwo 21 = false from rfl, if_neg (by decide)]
      simp only [wtL] at hw
      have hl2 : s.length + (own1 x.op (pt x) ++ ([46, 99, 111, 110, 116, 97, 105, 110, 115, 40] ++ (pt y ++ [41]))).length ≤ 100000000000000 := by simpa [pt, har, nodeT, isTwo, signT, methT, ptL] using hl
      simp only [List.length_append, List.length_cons, List.length_nil] at hl2
      simp (disch := first | assumption | exact Ne.symm (by assumption) | omega) only [hF2, hF3, ↓hla0, ↓hla1, getV, Int.reduceBEq, ↓ZD, ZU, ZR, Za, Zb, Zc, Zd, Ze, Zf, Zg, Zh, Zi, Zj, Zk, Zl, Zm, Zn, Zo, Zp, Zq, Zr, reduceIte, reduceCtorEq, Zs, Zt, Zu, Zv]
      repeat (refine conj.of (by first | omega | decide) ?_; simp (disch := first | assumption | exact Ne.symm (by assumption) | omega) only [hF2, hF3, ↓hla0, ↓hla1, Int.reduceBEq, ↓ZD, ZU, ZR, Za, Zb, Zc, Zd, Ze, Zf, Zg, Zh, Zi, Zj, Zk, Zl, Zm, Zn, Zo, Zp, Zq, Zr, reduceIte, reduceCtorEq, Zs, Zt, Zu, Zv])
      refine wr_11 (owner_wr _ b (s) (bad) ((r1 0 x rfl).mono le_up) ((ih 0 x rfl).mono le_up) (by (try simp only [List.length_append, List.length_cons, List.length_nil]); omega)) hp hb3 hb2 fun Hw0 hpw0 hdw0_0 hdw0_1 => ?_
      simp (disch := first | assumption | exact Ne.symm (by assumption) | omega) only [hF2, hF3, ↓hla0, ↓hla1, Int.reduceBEq, ↓ZD, ZU, ZR, Za, Zb, Zc, Zd, Ze, Zf, Zg, Zh, Zi, Zj, Zk, Zl, Zm, Zn, Zo, Zp, Zq, Zr, reduceIte, reduceCtorEq, Zs, Zt, Zu, Zv]
      refine EfL.mkMap fun b5 hb5 hF5 => ?_
      simp only [List.forall_mem_cons] at hb5
      obtain ⟨he5_0, he5_1, hb5⟩ := hb5
      have hu5 : ∀ o, upd Hw0 b5 o = Hw0 := fun o => upd_new hb5
      simp (disch := first | assumption | exact Ne.symm (by assumption) | omega) only [hF2, hF3, ↓hla0, ↓hla1, hF5, hu5, Int.reduceBEq, ↓ZD, ZU, ZR, Za, Zb, Zc, Zd, Ze, Zf, Zg, Zh, Zi, Zj, Zk, Zl, Zm, Zn, Zo, Zp, Zq, Zr, reduceIte, reduceCtorEq, Zs, Zt, Zu, Zv]
      refine EfL.ins (es := #[]) (c := 0) hF5 (by simp [lk]) rfl ?_
      simp (disch := first | assumption | exact Ne.symm (by assumption) | omega) only [hF2, hF3, ↓hla0, ↓hla1, hF5, hu5, Int.reduceBEq, ↓ZD, ZU, ZR, Za, Zb, Zc, Zd, Ze, Zf, Zg, Zh, Zi, Zj, Zk, Zl, Zm, Zn, Zo, Zp, Zq, Zr, reduceIte, reduceCtorEq, Zs, Zt, Zu, Zv]
      refine EfL.ins (es := #[{ key := .int .i64 21, val := .string (bs [46, 99, 111, 110, 116, 97, 105, 110, 115, 40]), born := 0 }]) (c := 1) hF5 (by simp [lk]) rfl ?_
      simp (disch := first | assumption | exact Ne.symm (by assumption) | omega) only [hF2, hF3, ↓hla0, ↓hla1, hF5, hu5, Int.reduceBEq, ↓ZD, ZU, ZR, Za, Zb, Zc, Zd, Ze, Zf, Zg, Zh, Zi, Zj, Zk, Zl, Zm, Zn, Zo, Zp, Zq, Zr, reduceIte, reduceCtorEq, Zs, Zt, Zu, Zv]
      refine EfL.ins (es := #[{ key := .int .i64 21, val := .string (bs [46, 99, 111, 110, 116, 97, 105, 110, 115, 40]), born := 0 }, { key := .int .i64 22, val := .string (bs [46, 99, 111, 110, 116, 97, 105, 110, 115, 65, 108, 108, 40]), born := 1 }]) (c := 2) hF5 (by simp [lk]) rfl ?_
      simp (disch := first | assumption | exact Ne.symm (by assumption) | omega) only [hF2, hF3, ↓hla0, ↓hla1, hF5, hu5, Int.reduceBEq, ↓ZD, ZU, ZR, Za, Zb, Zc, Zd, Ze, Zf, Zg, Zh, Zi, Zj, Zk, Zl, Zm, Zn, Zo, Zp, Zq, Zr, reduceIte, reduceCtorEq, Zs, Zt, Zu, Zv]
      refine EfL.get (es := [{ key := .int .i64 21, val := .string (bs [46, 99, 111, 110, 116, 97, 105, 110, 115, 40]), born := 0 }, { key := .int .i64 22, val := .string (bs [46, 99, 111, 110, 116, 97, 105, 110, 115, 65, 108, 108, 40]), born := 1 }, { key := .int .i64 23, val := .string (bs [46, 99, 111, 110, 116, 97, 105, 110, 115, 65, 110, 121, 40]), born := 2 }]) (by simp [mapEs, rdObj, hF5, lk]) rfl ?_
      simp (disch := first | assumption | exact Ne.symm (by assumption) | omega) only [hF2, hF3, ↓hla0, ↓hla1, hF5, hu5, getV, Int.reduceBEq, ↓ZD, ZU, ZR, Za, Zb, Zc, Zd, Ze, Zf, Zg, Zh, Zi, Zj, Zk, Zl, Zm, Zn, Zo, Zp, Zq, Zr, reduceIte, reduceCtorEq, Zs, Zt, Zu, Zv]
      refine new_3 fun b6 he6_0 he6_1 he6_2 hb6 hF6 => ?_
      simp (disch := first | assumption | exact Ne.symm (by assumption) | omega) only [hF2, hF3, ↓hla0, ↓hla1, hF6, Int.reduceBEq, ↓ZD, ZU, ZR, Za, Zb, Zc, Zd, Ze, Zf, Zg, Zh, Zi, Zj, Zk, Zl, Zm, Zn, Zo, Zp, Zq, Zr, reduceIte, reduceCtorEq, Zs, Zt, Zu, Zv]
      refine wr_1011 (put1 _ b b6 9 (s ++ own1 x.op (pt x)) ([46, 99, 111, 110, 116, 97, 105, 110, 115, 40]) _ (by simp [rdObj, hF6, lk]) (by (try simp only [List.length_append, List.length_cons, List.length_nil]); omega)) hpw0 hb6 hdw0_0 hdw0_1 fun Hw1 hpw1 hdw1_0 hdw1_1 hdw1_2 => ?_
      simp (disch := first | assumption | exact Ne.symm (by assumption) | omega) only [hF2, hF3, ↓hla0, ↓hla1, hF6, Int.reduceBEq, ↓ZD, ZU, ZR, Za, Zb, Zc, Zd, Ze, Zf, Zg, Zh, Zi, Zj, Zk, Zl, Zm, Zn, Zo, Zp, Zq, Zr, reduceIte, reduceCtorEq, Zs, Zt, Zu, Zv]
      repeat (refine conj.of (by first | omega | decide) ?_; simp (disch := first | assumption | exact Ne.symm (by assumption) | omega) only [hF2, hF3, ↓hla0, ↓hla1, hF6, Int.reduceBEq, ↓ZD, ZU, ZR, Za, Zb, Zc, Zd, Ze, Zf, Zg, Zh, Zi, Zj, Zk, Zl, Zm, Zn, Zo, Zp, Zq, Zr, reduceIte, reduceCtorEq, Zs, Zt, Zu, Zv])
      refine wr_011 (ih 1 y rfl _ le_up b (s ++ own1 x.op (pt x) ++ [46, 99, 111, 110, 116, 97, 105, 110, 115, 40]) (bad || !okX x) (by (try simp only [List.length_append, List.length_cons, List.length_nil]); omega)) hpw1 hdw1_1 hdw1_2 fun Hw2 hpw2 hdw2_0 hdw2_1 => ?_
      simp (disch := first | assumption | exact Ne.symm (by assumption) | omega) only [hF2, hF3, ↓hla0, ↓hla1, hF6, Int.reduceBEq, ↓ZD, ZU, ZR, Za, Zb, Zc, Zd, Ze, Zf, Zg, Zh, Zi, Zj, Zk, Zl, Zm, Zn, Zo, Zp, Zq, Zr, reduceIte, reduceCtorEq, Zs, Zt, Zu, Zv]
      refine new_2 fun b7 he7_0 he7_1 hb7 hF7 => ?_
      simp (disch := first | assumption | exact Ne.symm (by assumption) | omega) only [hF2, hF3, ↓hla0, ↓hla1, hF7, Int.reduceBEq, ↓ZD, ZU, ZR, Za, Zb, Zc, Zd, Ze, Zf, Zg, Zh, Zi, Zj, Zk, Zl, Zm, Zn, Zo, Zp, Zq, Zr, reduceIte, reduceCtorEq, Zs, Zt, Zu, Zv]
      refine wr_111 (put1 _ b b7 9 (s ++ own1 x.op (pt x) ++ [46, 99, 111, 110, 116, 97, 105, 110, 115, 40] ++ pt y) ([41]) _ (by simp [rdObj, hF7, lk]) (by (try simp only [List.length_append, List.length_cons, List.length_nil]); omega)) hpw2 hb7 hdw2_0 hdw2_1 fun Hw3 hpw3 hdw3_0 hdw3_1 hdw3_2 => ?_
      simp (disch := first | assumption | exact Ne.symm (by assumption) | omega) only [hF2, hF3, ↓hla0, ↓hla1, hF7, Int.reduceBEq, ↓ZD, ZU, ZR, Za, Zb, Zc, Zd, Ze, Zf, Zg, Zh, Zi, Zj, Zk, Zl, Zm, Zn, Zo, Zp, Zq, Zr, reduceIte, reduceCtorEq, Zs, Zt, Zu, Zv]
      refine ⟨Hw3, by simp +contextual, ?_⟩
      refine hpw3.cast ?_ ?_
      · simp [pt, har, nodeT, isTwo, signT, methT, ptL]
      · simp [okX, okL, har, nodeOk, litOk]
        cases bad <;> cases okX x <;> cases okX y <;> rfl
    · obtain ⟨x, y, rfl⟩ : ∃ x y, kids = [x, y] := by
        have := hr3 (by decide)
        rw [show kidsI 22 = 2 by decide] at this
        match kids, this with | [x, y], _ => exact ⟨x, y, rfl⟩
      obtain ⟨ba0, oa0, ea0, hla0⟩ := (h1 0 x rfl).ldn
      simp only [Nat.reduceMul, Nat.zero_mul, Nat.add_zero] at hla0
      obtain ⟨ba1, oa1, ea1, hla1⟩ := (h1 1 y rfl).ldn
      simp only [Nat.reduceMul, Nat.zero_mul, Nat.add_zero] at hla1
      subst ea0
      simp only [Option.some.injEq, Addr.mk.injEq, and_true] at ea1
      obtain ⟨rfl, rfl⟩ := ea1
      have har : arOk 22 2 names.length = true := by simpa using har
      rw [show isTwo 22 = false from rfl, if_neg (by decide)]
      simp only [wtL] at hw
      have hl2 : s.length + (own1 x.op (pt x) ++ ([46, 99, 111, 110, 116, 97, 105, 110, 115, 65, 108, 108, 40] ++ (pt y ++ [41]))).length ≤ 100000000000000 := by simpa [pt, har, nodeT, isTwo, signT, methT, ptL] using hl
      simp only [List.length_append, List.length_cons, List.length_nil] at hl2
      simp (disch := first | assumption | exact Ne.symm (by assumption) | omega) only [hF2, hF3, ↓hla0, ↓hla1, getV, Int.reduceBEq, ↓ZD, ZU, ZR, Za, Zb, Zc, Zd, Ze, Zf, Zg, Zh, Zi, Zj, Zk, Zl, Zm, Zn, Zo, Zp, Zq, Zr, reduceIte, reduceCtorEq, Zs, Zt, Zu, Zv]
      repeat (refine conj.of (by first | omega | decide) ?_; simp (disch := first | assumption | exact Ne.symm (by assumption) | omega) only [hF2, hF3, ↓hla0, ↓hla1, Int.reduceBEq, ↓ZD, ZU, ZR, Za, Zb, Zc, Zd, Ze, Zf, Zg, Zh, Zi, Zj, Zk, Zl, Zm, Zn, Zo, Zp, Zq, Zr, reduceIte, reduceCtorEq, Zs, Zt, Zu, Zv])
      refine wr_11 (owner_wr _ b (s) (bad) ((r1 0 x rfl).mono le_up) ((ih 0 x rfl).mono le_up) (by (try simp only [List.length_append, List.length_cons, List.length_nil]); omega)) hp hb3 hb2 fun Hw0 hpw0 hdw0_0 hdw0_1 => ?_
      simp (disch := first | assumption | exact Ne.symm (by assumption) | omega) only [hF2, hF3, ↓hla0, ↓hla1, Int.reduceBEq, ↓ZD, ZU, ZR, Za, Zb, Zc, Zd, Ze, Zf, Zg, Zh, Zi, Zj, Zk, Zl, Zm, Zn, Zo, Zp, Zq, Zr, reduceIte, reduceCtorEq, Zs, Zt, Zu, Zv]
      refine EfL.mkMap fun b5 hb5 hF5 => ?_
      simp only [List.forall_mem_cons] at hb5
      obtain ⟨he5_0, he5_1, hb5⟩ := hb5
      have hu5 : ∀ o, upd Hw0 b5 o = Hw0 := fun o => upd_new hb5
      simp (disch := first | assumption | exact Ne.symm (by assumption) | omega) only [hF2, hF3, ↓hla0, ↓hla1, hF5, hu5, Int.reduceBEq, ↓ZD, ZU, ZR, Za, Zb, Zc, Zd, Ze, Zf, Zg, Zh, Zi, Zj, Zk, Zl, Zm, Zn, Zo, Zp, Zq, Zr, reduceIte, reduceCtorEq, Zs, Zt, Zu, Zv]
      refine EfL.ins (es := #[]) (c := 0) hF5 (by simp [lk]) rfl ?_
      simp (disch := first | assumption | exact Ne.symm (by assumption) | omega) only [hF2, hF3, ↓hla0, ↓hla1, hF5, hu5, Int.reduceBEq, ↓ZD, ZU, ZR, Za, Zb, Zc, Zd, Ze, Zf, Zg, Zh, Zi, Zj, Zk, Zl, Zm, Zn, Zo, Zp, Zq, Zr, reduceIte, reduceCtorEq, Zs, Zt, Zu, Zv]
      refine EfL.ins (es := #[{ key := .int .i64 21, val := .string (bs [46, 99, 111, 110, 116, 97, 105, 110, 115, 40]), born := 0 }]) (c := 1) hF5 (by simp [lk]) rfl ?_
      simp (disch := first | assumption | exact Ne.symm (by assumption) | omega) only [hF2, hF3, ↓hla0, ↓hla1, hF5, hu5, Int.reduceBEq, ↓ZD, ZU, ZR, Za, Zb, Zc, Zd, Ze, Zf, Zg, Zh, Zi, Zj, Zk, Zl, Zm, Zn, Zo, Zp, Zq, Zr, reduceIte, reduceCtorEq, Zs, Zt, Zu, Zv]
      refine EfL.ins (es := #[{ key := .int .i64 21, val := .string (bs [46, 99, 111, 110, 116, 97, 105, 110, 115, 40]), born := 0 }, { key := .int .i64 22, val := .string (bs [46, 99, 111, 110, 116, 97, 105, 110, 115, 65, 108, 108, 40]), born := 1 }]) (c := 2) hF5 (by simp [lk]) rfl ?_
      simp (disch := first | assumption | exact Ne.symm (by assumption) | omega) only [hF2, hF3, ↓hla0, ↓hla1, hF5, hu5, Int.reduceBEq, ↓ZD, ZU, ZR, Za, Zb, Zc, Zd, Ze, Zf, Zg, Zh, Zi, Zj, Zk, Zl, Zm, Zn, Zo, Zp, Zq, Zr, reduceIte, reduceCtorEq, Zs, Zt, Zu, Zv]
      refine EfL.get (es := [{ key := .int .i64 21, val := .string (bs [46, 99, 111, 110, 116, 97, 105, 110, 115, 40]), born := 0 }, { key := .int .i64 22, val := .string (bs [46, 99, 111, 110, 116, 97, 105, 110, 115, 65, 108, 108, 40]), born := 1 }, { key := .int .i64 23, val := .string (bs [46, 99, 111, 110, 116, 97, 105, 110, 115, 65, 110, 121, 40]), born := 2 }]) (by simp [mapEs, rdObj, hF5, lk]) rfl ?_
      simp (disch := first | assumption | exact Ne.symm (by assumption) | omega) only [hF2, hF3, ↓hla0, ↓hla1, hF5, hu5, getV, Int.reduceBEq, ↓ZD, ZU, ZR, Za, Zb, Zc, Zd, Ze, Zf, Zg, Zh, Zi, Zj, Zk, Zl, Zm, Zn, Zo, Zp, Zq, Zr, reduceIte, reduceCtorEq, Zs, Zt, Zu, Zv]
      refine new_3 fun b6 he6_0 he6_1 he6_2 hb6 hF6 => ?_
      simp (disch := first | assumption | exact Ne.symm (by assumption) | omega) only [hF2, hF3, ↓hla0, ↓hla1, hF6, Int.reduceBEq, ↓ZD, ZU, ZR, Za, Zb, Zc, Zd, Ze, Zf, Zg, Zh, Zi, Zj, Zk, Zl, Zm, Zn, Zo, Zp, Zq, Zr, reduceIte, reduceCtorEq, Zs, Zt, Zu, Zv]
      refine wr_1011 (put1 _ b b6 9 (s ++ own1 x.op (pt x)) ([46, 99, 111, 110, 116, 97, 105, 110, 115, 65, 108, 108, 40]) _ (by simp [rdObj, hF6, lk]) (by (try simp only [List.length_append, List.length_cons, List.length_nil]); omega)) hpw0 hb6 hdw0_0 hdw0_1 fun Hw1 hpw1 hdw1_0 hdw1_1 hdw1_2 => ?_
      simp (disch := first | assumption | exact Ne.symm (by assumption) | omega) only [hF2, hF3, ↓hla0, ↓hla1, hF6, Int.reduceBEq, ↓ZD, ZU, ZR, Za, Zb, Zc, Zd, Ze, Zf, Zg, Zh, Zi, Zj, Zk, Zl, Zm, Zn, Zo, Zp, Zq, Zr, reduceIte, reduceCtorEq, Zs, Zt, Zu, Zv]
      repeat (refine conj.of (by first | omega | decide) ?_; simp (disch := first | assumption | exact Ne.symm (by assumption) | omega) only [hF2, hF3, ↓hla0, ↓hla1, hF6, Int.reduceBEq, ↓ZD, ZU, ZR, Za, Zb, Zc, Zd, Ze, Zf, Zg, Zh, Zi, Zj, Zk, Zl, Zm, Zn, Zo, Zp, Zq, Zr, reduceIte, reduceCtorEq, Zs, Zt, Zu, Zv])
      refine wr_011 (ih 1 y rfl _ le_up b (s ++ own1 x.op (pt x) ++ [46, 99, 111, 110, 116, 97, 105, 110, 115, 65, 108, 108, 40]) (bad || !okX x) (by (try simp only [List.length_append, List.length_cons, List.length_nil]); omega)) hpw1 hdw1_1 hdw1_2 fun Hw2 hpw2 hdw2_0 hdw2_1 => ?_
      simp (disch := first | assumption | exact Ne.symm (by assumption) | omega) only [hF2, hF3, ↓hla0, ↓hla1, hF6, Int.reduceBEq, ↓ZD, ZU, ZR, Za, Zb, Zc, Zd, Ze, Zf, Zg, Zh, Zi, Zj, Zk, Zl, Zm, Zn, Zo, Zp, Zq, Zr, reduceIte, reduceCtorEq, Zs, Zt, Zu, Zv]
      refine new_2 fun b7 he7_0 he7_1 hb7 hF7 => ?_
      simp (disch := first | assumption | exact Ne.symm (by assumption) | omega) only [hF2, hF3, ↓hla0, ↓hla1, hF7, Int.reduceBEq, ↓ZD, ZU, ZR, Za, Zb, Zc, Zd, Ze, Zf, Zg, Zh, Zi, Zj, Zk, Zl, Zm, Zn, Zo, Zp, Zq, Zr, reduceIte, reduceCtorEq, Zs, Zt, Zu, Zv]
      refine wr_111 (put1 _ b b7 9 (s ++ own1 x.op (pt x) ++ [46, 99, 111, 110, 116, 97, 105, 110, 115, 65, 108, 108, 40] ++ pt y) ([41]) _ (by simp [rdObj, hF7, lk]) (by (try simp only [List.length_append, List.length_cons, List.length_nil]); omega)) hpw2 hb7 hdw2_0 hdw2_1 fun Hw3 hpw3 hdw3_0 hdw3_1 hdw3_2 => ?_
      simp (disch := first | assumption | exact Ne.symm (by assumption) | omega) only [hF2, hF3, ↓hla0, ↓hla1, hF7, Int.reduceBEq, ↓ZD, ZU, ZR, Za, Zb, Zc, Zd, Ze, Zf, Zg, Zh, Zi, Zj, Zk, Zl, Zm, Zn, Zo, Zp, Zq, Zr, reduceIte, reduceCtorEq, Zs, Zt, Zu, Zv]
      refine ⟨Hw3, by simp +contextual, ?_⟩
      refine hpw3.cast ?_ ?_
      · simp [pt, har, nodeT, isTwo, signT, methT, ptL]
      · simp [okX, okL, har, nodeOk, litOk]
        cases bad <;> cases okX x <;> cases okX y <;> rfl
    · obtain ⟨x, y, rfl⟩ : ∃ x y, kids = [x, y] := by
        have := hr3 (by decide)
        rw [show kidsI 23 = 2 by decide] at this
        match kids, this with | [x, y], _ => exact ⟨x, y, rfl⟩
      obtain ⟨ba0, oa0, ea0, hla0⟩ := (h1 0 x rfl).ldn
      simp only [Nat.reduceMul, Nat.zero_mul, Nat.add_zero] at hla0
      obtain ⟨ba1, oa1, ea1, hla1⟩ := (h1 1 y rfl).ldn
      simp only [Nat.reduceMul, Nat.zero_mul, Nat.add_zero] at hla1
      subst ea0
      simp only [Option.some.injEq, Addr.mk.injEq, and_true] at ea1
      obtain ⟨rfl, rfl⟩ := ea1
      have har : arOk 23 2 names.length = true := by simpa using har
      rw [show isTwo 23 = false from rfl, if_neg (by decide)]
      simp only [wtL] at hw
      have hl2 : s.length + (own1 x.op (pt x) ++ ([46, 99, 111, 110, 116, 97, 105, 110, 115, 65, 110, 121, 40] ++ (pt y ++ [41]))).length ≤ 100000000000000 := by simpa [pt, har, nodeT, isTwo, signT, methT, ptL] using hl
      simp only [List.length_append, List.length_cons, List.length_nil] at hl2
      simp (disch := first | assumption | exact Ne.symm (by assumption) | omega) only [hF2, hF3, ↓hla0, ↓hla1, getV, Int.reduceBEq, ↓ZD, ZU, ZR, Za, Zb, Zc, Zd, Ze, Zf, Zg, Zh, Zi, Zj, Zk, Zl, Zm, Zn, Zo, Zp, Zq, Zr, reduceIte, reduceCtorEq, Zs, Zt, Zu, Zv]
      repeat (refine conj.of (by first | omega | decide) ?_; simp (disch := first | assumption | exact Ne.symm (by assumption) | omega) only [hF2, hF3, ↓hla0, ↓hla1, Int.reduceBEq, ↓ZD, ZU, ZR, Za, Zb, Zc, Zd, Ze, Zf, Zg, Zh, Zi, Zj, Zk, Zl, Zm, Zn, Zo, Zp, Zq, Zr, reduceIte, reduceCtorEq, Zs, Zt, Zu, Zv])
      refine wr_11 (owner_wr _ b (s) (bad) ((r1 0 x rfl).mono le_up) ((ih 0 x rfl).mono le_up) (by (try simp only [List.length_append, List.length_cons, List.length_nil]); omega)) hp hb3 hb2 fun Hw0 hpw0 hdw0_0 hdw0_1 => ?_
      simp (disch := first | assumption | exact Ne.symm (by assumption) | omega) only [hF2, hF3, ↓hla0, ↓hla1, Int.reduceBEq, ↓ZD, ZU, ZR, Za, Zb, Zc, Zd, Ze, Zf, Zg, Zh, Zi, Zj, Zk, Zl, Zm, Zn, Zo, Zp, Zq, Zr, reduceIte, reduceCtorEq, Zs, Zt, Zu, Zv]
      refine EfL.mkMap fun b5 hb5 hF5 => ?_
      simp only [List.forall_mem_cons] at hb5
      obtain ⟨he5_0, he5_1, hb5⟩ := hb5
      have hu5 : ∀ o, upd Hw0 b5 o = Hw0 := fun o => upd_new hb5
      simp (disch := first | assumption | exact Ne.symm (by assumption) | omega) only [hF2, hF3, ↓hla0, ↓hla1, hF5, hu5, Int.reduceBEq, ↓ZD, ZU, ZR, Za, Zb, Zc, Zd, Ze, Zf, Zg, Zh, Zi, Zj, Zk, Zl, Zm, Zn, Zo, Zp, Zq, Zr, reduceIte, reduceCtorEq, Zs, Zt, Zu, Zv]
      refine EfL.ins (es := #[]) (c := 0) hF5 (by simp [lk]) rfl ?_
      simp (disch := first | assumption | exact Ne.symm (by assumption) | omega) only [hF2, hF3, ↓hla0, ↓hla1, hF5, hu5, Int.reduceBEq, ↓ZD, ZU, ZR, Za, Zb, Zc, Zd, Ze, Zf, Zg, Zh, Zi, Zj, Zk, Zl, Zm, Zn, Zo, Zp, Zq, Zr, reduceIte, reduceCtorEq, Zs, Zt, Zu, Zv]
      refine EfL.ins (es := #[{ key := .int .i64 21, val := .string (bs [46, 99, 111, 110, 116, 97, 105, 110, 115, 40]), born := 0 }]) (c := 1) hF5 (by simp [lk]) rfl ?_
      simp (disch := first | assumption | exact Ne.symm (by assumption) | omega) only [hF2, hF3, ↓hla0, ↓hla1, hF5, hu5, Int.reduceBEq, ↓ZD, ZU, ZR, Za, Zb, Zc, Zd, Ze, Zf, Zg, Zh, Zi, Zj, Zk, Zl, Zm, Zn, Zo, Zp, Zq, Zr, reduceIte, reduceCtorEq, Zs, Zt, Zu, Zv]
      refine EfL.ins (es := #[{ key := .int .i64 21, val := .string (bs [46, 99, 111, 110, 116, 97, 105, 110, 115, 40]), born := 0 }, { key := .int .i64 22, val := .string (bs [46, 99, 111, 110, 116, 97, 105, 110, 115, 65, 108, 108, 40]), born := 1 }]) (c := 2) hF5 (by simp [lk]) rfl ?_
      simp (disch := first | assumption | exact Ne.symm (by assumption) | omega) only [hF2, hF3, ↓hla0, ↓hla1, hF5, hu5, Int.reduceBEq, ↓ZD, ZU, ZR, Za, Zb, Zc, Zd, Ze, Zf, Zg, Zh, Zi, Zj, Zk, Zl, Zm, Zn, Zo, Zp, Zq, Zr, reduceIte, reduceCtorEq, Zs, Zt, Zu, Zv]
      refine EfL.get (es := [{ key := .int .i64 21, val := .string (bs [46, 99, 111, 110, 116, 97, 105, 110, 115, 40]), born := 0 }, { key := .int .i64 22, val := .string (bs [46, 99, 111, 110, 116, 97, 105, 110, 115, 65, 108, 108, 40]), born := 1 }, { key := .int .i64 23, val := .string (bs [46, 99, 111, 110, 116, 97, 105, 110, 115, 65, 110, 121, 40]), born := 2 }]) (by simp [mapEs, rdObj, hF5, lk]) rfl ?_
      simp (disch := first | assumption | exact Ne.symm (by assumption) | omega) only [hF2, hF3, ↓hla0, ↓hla1, hF5, hu5, getV, Int.reduceBEq, ↓ZD, ZU, ZR, Za, Zb, Zc, Zd, Ze, Zf, Zg, Zh, Zi, Zj, Zk, Zl, Zm, Zn, Zo, Zp, Zq, Zr, reduceIte, reduceCtorEq, Zs, Zt, Zu, Zv]
      refine new_3 fun b6 he6_0 he6_1 he6_2 hb6 hF6 => ?_
      simp (disch := first | assumption | exact Ne.symm (by assumption) | omega) only [hF2, hF3, ↓hla0, ↓hla1, hF6, Int.reduceBEq, ↓ZD, ZU, ZR, Za, Zb, Zc, Zd, Ze, Zf, Zg, Zh, Zi, Zj, Zk, Zl, Zm, Zn, Zo, Zp, Zq, Zr, reduceIte, reduceCtorEq, Zs, Zt, Zu, Zv]
      refine wr_1011 (put1 _ b b6 9 (s ++ own1 x.op (pt x)) ([46, 99, 111, 110, 116, 97, 105, 110, 115, 65, 110, 121, 40]) _ (by simp [rdObj, hF6, lk]) (by (try simp only [List.length_append, List.length_cons, List.length_nil]); omega)) hpw0 hb6 hdw0_0 hdw0_1 fun Hw1 hpw1 hdw1_0 hdw1_1 hdw1_2 => ?_
      simp (disch := first | assumption | exact Ne.symm (by assumption) | omega) only [hF2, hF3, ↓hla0, ↓hla1, hF6, Int.reduceBEq, ↓ZD, ZU, ZR, Za, Zb, Zc, Zd, Ze, Zf, Zg, Zh, Zi, Zj, Zk, Zl, Zm, Zn, Zo, Zp, Zq, Zr, reduceIte, reduceCtorEq, Zs, Zt, Zu, Zv]
      repeat (refine conj.of (by first | omega | decide) ?_; simp (disch := first | assumption | exact Ne.symm (by assumption) | omega) only [hF2, hF3, ↓hla0, ↓hla1, hF6, Int.reduceBEq, ↓ZD, ZU, ZR, Za, Zb, Zc, Zd, Ze, Zf, Zg, Zh, Zi, Zj, Zk, Zl, Zm, Zn, Zo, Zp, Zq, Zr, reduceIte, reduceCtorEq, Zs, Zt, Zu, Zv])
      refine wr_011 (ih 1 y rfl _ le_up b (s ++ own1 x.op (pt x) ++ [46, 99, 111, 110, 116, 97, 105, 110, 115, 65, 110, 121, 40]) (bad || !okX x) (by (try simp only [List.length_append, List.length_cons, List.length_nil]); omega)) hpw1 hdw1_1 hdw1_2 fun Hw2 hpw2 hdw2_0 hdw2_1 => ?_
      simp (disch := first | assumption | exact Ne.symm (by assumption) | omega) only [hF2, hF3, ↓hla0, ↓hla1, hF6, Int.reduceBEq, ↓ZD, ZU, ZR, Za, Zb, Zc, Zd, Ze, Zf, Zg, Zh, Zi, Zj, Zk, Zl, Zm, Zn, Zo, Zp, Zq, Zr, reduceIte, reduceCtorEq, Zs, Zt, Zu, Zv]
      refine new_2 fun b7 he7_0 he7_1 hb7 hF7 => ?_
      simp (disch := first | assumption | exact Ne.symm (by assumption) | omega) only [hF2, hF3, ↓hla0, ↓hla1, hF7, Int.reduceBEq, ↓ZD, ZU, ZR, Za, Zb, Zc, Zd, Ze, Zf, Zg, Zh, Zi, Zj, Zk, Zl, Zm, Zn, Zo, Zp, Zq, Zr, reduceIte, reduceCtorEq, Zs, Zt, Zu, Zv]
      refine wr_111 (put1 _ b b7 9 (s ++ own1 x.op (pt x) ++ [46, 99, 111, 110, 116, 97, 105, 110, 115, 65, 110, 121, 40] ++ pt y) ([41]) _ (by simp [rdObj, hF7, lk]) (by (try simp only [List.length_append, List.length_cons, List.length_nil]); omega)) hpw2 hb7 hdw2_0 hdw2_1 fun Hw3 hpw3 hdw3_0 hdw3_1 hdw3_2 => ?_
      simp (disch := first | assumption | exact Ne.symm (by assumption) | omega) only [hF2, hF3, ↓hla0, ↓hla1, hF7, Int.reduceBEq, ↓ZD, ZU, ZR, Za, Zb, Zc, Zd, Ze, Zf, Zg, Zh, Zi, Zj, Zk, Zl, Zm, Zn, Zo, Zp, Zq, Zr, reduceIte, reduceCtorEq, Zs, Zt, Zu, Zv]
      refine ⟨Hw3, by simp +contextual, ?_⟩
      refine hpw3.cast ?_ ?_
      · simp [pt, har, nodeT, isTwo, signT, methT, ptL]
      · simp [okX, okL, har, nodeOk, litOk]
        cases bad <;> cases okX x <;> cases okX y <;> rfl
    · exact (hbig (.inr ho1)).elim
end Go.Proofs.YtoelfmmfjebabaaDoor
