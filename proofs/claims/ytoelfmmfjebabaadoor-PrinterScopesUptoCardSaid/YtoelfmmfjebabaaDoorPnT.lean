/- Layer 10: scopes, told. -/
import Derived.Test.YtoelfmmfjebabaaDoorPnS
namespace Go.Proofs.YtoelfmmfjebabaaDoor
open Go Go.Eng
open Int renaming reduceEq → Za, reduceToNat → Zm, reduceLE → Zn, reduceLT → Zo, reduceAdd → Zp, reduceSub → Zq, reduceNeg → Zr, reducePow → Zt, reduceNegSucc → Zv
open UInt8 renaming reduceOfNat → Zb
open List renaming mapM_cons → Zc, mapM_nil → Zd
open Nat renaming reduceAdd → Ze, reduceMul → Zf, reduceMod → Zg, reduceDiv → Zh, reduceEqDiff → Zi, reduceBEq → Zj, reduceLeDiff → Zk, reduceSub → Zl, reducePow → Zs, reduceLT → Zu
set_option linter.unusedSimpArgs false
set_option linter.unusedVariables false
set_option maxRecDepth 20000

structure Scp where
  kind : Int
  ty : Str
  ut : Str
  ui : Str
  slot : Bool
  list : List (Str × Str)
def scells (x : Scp) (v : Value) : List Value := [.int .i64 x.kind, .string (bs x.ty), .string (bs x.ut), .string (bs x.ui), .bool x.slot, v]
def RepU (F : Base) (v : Value) (l : List (Str × Str)) : Prop := ∃ a c, v = .slice a l.length c ∧ l.length ≤ c ∧ l.length ≤ 9223372036854775807 ∧ ∀ (i : Nat) (p : Str × Str), l[i]? = some p → Cl F a 2 i [.string (bs p.1), .string (bs p.2)]
theorem RepU.mono {F F' : Base} {v : Value} {l : List (Str × Str)} (h : RepU F v l) (hF : ∀ b o, F b = some o → F' b = some o) : RepU F' v l := by
  obtain ⟨a, c, h1, h2, h3, h4⟩ := h; exact ⟨a, c, h1, h2, h3, fun i p hi => (h4 i p hi).mono hF⟩
def RepSc (F : Base) (cs : List Value) (x : Scp) : Prop := ∃ v, cs = scells x v ∧ I64 x.kind ∧ RepU F v x.list
theorem RepSc.mono {F F' : Base} {cs : List Value} {x : Scp} (h : RepSc F cs x) (hF : ∀ b o, F b = some o → F' b = some o) : RepSc F' cs x := by
  obtain ⟨v, h1, h2, h3⟩ := h; exact ⟨v, h1, h2, h3.mono hF⟩
/-- How much there is of a scope. -/
def wtS (x : Scp) : Nat := x.ty.length + x.ut.length + x.ui.length + (x.list.map fun p => p.1.length + p.2.length + 3).sum
def actN : Str := [97, 99, 116, 105, 111, 110]
def placeT (x : Scp) (nm : Str) : Str := if x.slot then 63 :: nm else uidT x.ut x.ui
def placeOk (x : Scp) (nm : Str) : Bool := if x.slot then nm != actN else okPath x.ut
def uidsT (l : List (Str × Str)) : List Str := l.map fun p => uidT p.1 p.2
def midT (x : Scp) (nm : Str) : Str :=
  if x.kind = 0 then [] else if x.kind = 1 then [32, 61, 61, 32] ++ placeT x nm else if x.kind = 2 then [32, 105, 110, 32] ++ placeT x nm
  else if (x.kind = 3 ∨ x.kind = 4) ∧ nm ≠ actN then [32, 105, 115, 32] ++ (x.ty ++ if x.kind = 4 then [32, 105, 110, 32] ++ placeT x nm else [])
  else if x.kind = 5 ∧ nm = actN then [32, 105, 110, 32, 91] ++ (rowT ahQ 0 (uidsT x.list) ++ [93]) else []
def midOk (x : Scp) (nm : Str) : Bool :=
  if x.kind = 0 then true else if x.kind = 1 then placeOk x nm else if x.kind = 2 then placeOk x nm
  else if (x.kind = 3 ∨ x.kind = 4) ∧ nm ≠ actN then okPath x.ty && (x.kind != 4 || placeOk x nm)
  else if x.kind = 5 ∧ nm = actN then x.list.all fun p => okPath p.1 else false
def scopeT (x : Scp) (nm : Str) : Str := nm ++ midT x nm
def scopeOk (x : Scp) (nm : Str) : Bool := midOk x nm && !(nm == actN && x.slot)
theorem uidT_len (ty id : Str) : (uidT ty id).length ≤ ty.length + 4 * id.length + 4 := by
  have := quote_len id
  simp only [uidT, cc, List.length_append, List.length_cons, List.length_nil]; omega
theorem uids_len (l : List (Str × Str)) : lenS (uidsT l) + 2 * l.length ≤ 4 * (l.map fun p => p.1.length + p.2.length + 3).sum := by
  induction l with
  | nil => exact Nat.le_refl 0
  | cons p l ih =>
    have := uidT_len p.1 p.2
    have e : uidsT (p :: l) = uidT p.1 p.2 :: uidsT l := rfl
    rw [e, lenS, List.map_cons, List.sum_cons, List.length_cons]
    omega
theorem place_len (x : Scp) (nm : Str) : (placeT x nm).length ≤ 1 + nm.length + 4 * wtS x + 4 := by
  have := uidT_len x.ut x.ui
  unfold placeT wtS
  split <;> (try simp only [List.length_cons]) <;> omega
theorem sumP_mem {p : Str × Str} : ∀ {l : List (Str × Str)}, p ∈ l → p.1.length + p.2.length ≤ (l.map fun p => p.1.length + p.2.length + 3).sum
  | y :: l, h => by
    rw [List.map_cons, List.sum_cons]
    rcases List.mem_cons.1 h with rfl | h
    · omega
    · have := sumP_mem h; omega
theorem rowQ_len (l : List Str) : (rowT ahQ 0 l).length ≤ lenS l + 2 * l.length := by
  have := rowT_len ahQ (fun _ => 0) (fun _ => by simp [ahQ]) l 0
  rw [sum_zero] at this
  omega
theorem mid_len (x : Scp) (nm : Str) : (midT x nm).length ≤ 20 + nm.length + 8 * wtS x := by
  have h1 := place_len x nm
  have h2 := rowQ_len (uidsT x.list)
  have h3 := uids_len x.list
  have h4 : (uidsT x.list).length = x.list.length := by simp [uidsT]
  have h5 : (x.list.map fun p => p.1.length + p.2.length + 3).sum ≤ wtS x := by unfold wtS; omega
  have h6 : x.ty.length ≤ wtS x := by unfold wtS; omega
  have h7 : x.ty.length + x.ut.length + x.ui.length ≤ wtS x := by unfold wtS; omega
  have h8 : placeT x nm = 63 :: nm ∨ placeT x nm = uidT x.ut x.ui := by unfold placeT; split <;> simp
  have h9 := uidT_len x.ut x.ui
  unfold midT
  repeat' split
  all_goals simp only [List.length_append, List.length_cons, List.length_nil]
  all_goals rcases h8 with h8 | h8 <;> rw [h8] at * <;> simp only [List.length_cons] at * <;> omega
theorem HLe_pre2 {A : Hp} {b1 b2 : Nat} {o1 o2 : Obj} (h : ∀ e ∈ A, lk A e.1 = some e.2) (hd1 : ∀ e ∈ A, e.1 ≠ b1) (hd2 : ∀ e ∈ A, e.1 ≠ b2) : HLe A ((b1, o1) :: (b2, o2) :: A) :=
  HLe_pre (Hr := [(b1, o1), (b2, o2)]) (A := A) h fun e he => by simp only [List.forall_mem_cons, List.not_mem_nil, false_implies, implies_true, and_true]; exact ⟨hd1 e he, hd2 e he⟩
theorem place_wr (F : Base) (hg : HasM F) (b : Nat) (s : Str) (bad : Bool) {cs : List Value} {x : Scp} (hx : RepSc F cs x) (nm : Str) (hw : wtS x ≤ 1048576) (hn : nm.length ≤ 100) (hl : s.length ≤ 99000000000000) :
    Wr F 56 [.pointer (some ⟨b, 0, none⟩), .agg cs.toArray, .string (bs nm)] b s bad (s ++ placeT x nm) (bad || !placeOk x nm) (.tuple #[]) := by
  obtain ⟨kind, ty, ut, ui, slot, l⟩ := x
  obtain ⟨v, rfl, hk, a, c, rfl, hc, hln, hh⟩ := hx
  have hut := uidT_len ut ui
  simp only [wtS] at hw hk hc hln hh
  refine Wr.of_svc mixed Tryd.func56 low56 (Nat.le_of_ble_eq_true rfl) fun H0 hp w0 hw0 => ?_
  unfold scells
  cases slot with
  | true =>
    simp (disch := first | assumption | exact Ne.symm (by assumption) | omega) only [fu56, Int.reduceBEq, ↓ZD, ZU, ZR, Za, Zb, Zc, Zd, Ze, Zf, Zg, Zh, Zi, Zj, Zk, Zl, Zm, Zn, Zo, Zp, Zq, Zr, reduceIte, reduceCtorEq, Zs, Zt, Zu, Zv]
    refine NewB.of fun b3 hb3 hF3 => ?_
    simp (disch := first | assumption | exact Ne.symm (by assumption) | omega) only [hF3, Int.reduceBEq, ↓ZD, ZU, ZR, Za, Zb, Zc, Zd, Ze, Zf, Zg, Zh, Zi, Zj, Zk, Zl, Zm, Zn, Zo, Zp, Zq, Zr, reduceIte, reduceCtorEq, Zs, Zt, Zu, Zv]
    refine wr_1 (must_wr _ b s bad (nm != actN)) hp hb3 fun Hw0 hpw0 hdw0_0 => ?_
    simp (disch := first | assumption | exact Ne.symm (by assumption) | omega) only [hF3, Int.reduceBEq, ↓ZD, ZU, ZR, Za, Zb, Zc, Zd, Ze, Zf, Zg, Zh, Zi, Zj, Zk, Zl, Zm, Zn, Zo, Zp, Zq, Zr, reduceIte, reduceCtorEq, Zs, Zt, Zu, Zv]
    refine new_1 fun b5 he5_0 hb5 hF5 => ?_
    simp (disch := first | assumption | exact Ne.symm (by assumption) | omega) only [hF3, hF5, Int.reduceBEq, ↓ZD, ZU, ZR, Za, Zb, Zc, Zd, Ze, Zf, Zg, Zh, Zi, Zj, Zk, Zl, Zm, Zn, Zo, Zp, Zq, Zr, reduceIte, reduceCtorEq, Zs, Zt, Zu, Zv]
    refine wr_11 (put2 _ b b5 9 (s) ([63]) (nm) _ (by simp [rdObj, hF5, lk]) (by (try simp only [List.length_append, List.length_cons, List.length_nil]); omega)) hpw0 hb5 hdw0_0 fun Hw1 hpw1 hdw1_0 hdw1_1 => ?_
    simp (disch := first | assumption | exact Ne.symm (by assumption) | omega) only [hF3, hF5, Int.reduceBEq, ↓ZD, ZU, ZR, Za, Zb, Zc, Zd, Ze, Zf, Zg, Zh, Zi, Zj, Zk, Zl, Zm, Zn, Zo, Zp, Zq, Zr, reduceIte, reduceCtorEq, Zs, Zt, Zu, Zv]
    exact ⟨Hw1, by simp +contextual, by simpa [placeT, placeOk] using hpw1⟩
  | false =>
    simp (disch := first | assumption | exact Ne.symm (by assumption) | omega) only [fu56, Int.reduceBEq, ↓ZD, ZU, ZR, Za, Zb, Zc, Zd, Ze, Zf, Zg, Zh, Zi, Zj, Zk, Zl, Zm, Zn, Zo, Zp, Zq, Zr, reduceIte, reduceCtorEq, Zs, Zt, Zu, Zv]
    refine NewB.of fun b3 hb3 hF3 => ?_
    simp (disch := first | assumption | exact Ne.symm (by assumption) | omega) only [hF3, Int.reduceBEq, ↓ZD, ZU, ZR, Za, Zb, Zc, Zd, Ze, Zf, Zg, Zh, Zi, Zj, Zk, Zl, Zm, Zn, Zo, Zp, Zq, Zr, reduceIte, reduceCtorEq, Zs, Zt, Zu, Zv]
    refine wr_1 (uid_wr _ (hg.mono le_up) b s bad ut ui (by omega) (by unfold Sm; omega) (by unfold Sm; omega)) hp hb3 fun Hw0 hpw0 hdw0_0 => ?_
    simp (disch := first | assumption | exact Ne.symm (by assumption) | omega) only [hF3, Int.reduceBEq, ↓ZD, ZU, ZR, Za, Zb, Zc, Zd, Ze, Zf, Zg, Zh, Zi, Zj, Zk, Zl, Zm, Zn, Zo, Zp, Zq, Zr, reduceIte, reduceCtorEq, Zs, Zt, Zu, Zv]
    exact ⟨Hw0, by simp +contextual, by simpa [placeT, placeOk] using hpw0⟩
theorem scope_wr (F : Base) (hg : HasM F) (b : Nat) (s : Str) (bad : Bool) {cs : List Value} {x : Scp} (hx : RepSc F cs x) (nm : Str) (hw : wtS x ≤ 1048576) (hn : nm.length ≤ 100) (hl : s.length ≤ 90000000000000) :
    Wr F 39 [.pointer (some ⟨b, 0, none⟩), .agg cs.toArray, .string (bs nm)] b s bad (s ++ scopeT x nm) (bad || !scopeOk x nm) (.tuple #[]) := by
  have hmid := place_len x nm
  have hpl : ∀ (F' : Base), (∀ b o, F b = some o → F' b = some o) → ∀ (b : Nat) (s : Str) (bad : Bool), s.length ≤ 99000000000000 → Wr F' 56 [.pointer (some ⟨b, 0, none⟩), .agg cs.toArray, .string (bs nm)] b s bad (s ++ placeT x nm) (bad || !placeOk x nm) (.tuple #[]) := fun F' hF b s bad h => place_wr F' (hg.mono hF) b s bad (hx.mono hF) nm hw hn h
  have hw0 := hw
  obtain ⟨v, rfl, hk, a, c, rfl, hc, hln, hh⟩ := hx
  have hT : ∀ m o, midT x nm = m → midOk x nm = o → scopeT x nm = nm ++ m ∧ scopeOk x nm = (o && !(nm == actN && x.slot)) := by rintro _ _ rfl rfl; exact ⟨rfl, rfl⟩
  generalize hP : placeT x nm = P at hmid hpl
  generalize hPo : placeOk x nm = Po at hpl
  generalize hS1 : scopeT x nm = S1 at hT ⊢
  generalize hS2 : scopeOk x nm = S2 at hT ⊢
  have hmT : midT x nm = midT x nm := rfl
  have hmO : midOk x nm = midOk x nm := rfl
  conv at hmT => rhs; unfold midT; rw [hP]
  conv at hmO => rhs; unfold midOk; rw [hPo]
  generalize midT x nm = mT at hT hmT
  generalize midOk x nm = mO at hT hmO
  obtain ⟨rfl, rfl⟩ := hT _ _ rfl rfl
  clear hT hS1 hS2 hP hPo
  obtain ⟨kind, ty, ut, ui, slot, l⟩ := x
  simp only [wtS] at hw hw0 hk hc hln hh hmid hmT hmO ⊢
  refine Wr.of_svc mixed Tryd.func39 low39 (Nat.le_of_ble_eq_true rfl) fun H0 hp w0 hw0 => ?_
  unfold scells at hpl ⊢
  cases hact : (nm == actN) with
  | true =>
    have hact' : (nm == [97, 99, 116, 105, 111, 110]) = true := hact
    have hna : nm = actN := by simpa using hact
    simp (disch := first | assumption | exact Ne.symm (by assumption) | omega) only [hact', fu39, Int.reduceBEq, ↓ZD, ZU, ZR, Za, Zb, Zc, Zd, Ze, Zf, Zg, Zh, Zi, Zj, Zk, Zl, Zm, Zn, Zo, Zp, Zq, Zr, reduceIte, reduceCtorEq, Zs, Zt, Zu, Zv]
    refine NewB.of fun b3 hb3 hF3 => ?_
    simp (disch := first | assumption | exact Ne.symm (by assumption) | omega) only [hF3, hact', Int.reduceBEq, ↓ZD, ZU, ZR, Za, Zb, Zc, Zd, Ze, Zf, Zg, Zh, Zi, Zj, Zk, Zl, Zm, Zn, Zo, Zp, Zq, Zr, reduceIte, reduceCtorEq, Zs, Zt, Zu, Zv]
    refine new_1 fun b5 he5_0 hb5 hF5 => ?_
    simp (disch := first | assumption | exact Ne.symm (by assumption) | omega) only [hF3, hact', hF5, Int.reduceBEq, ↓ZD, ZU, ZR, Za, Zb, Zc, Zd, Ze, Zf, Zg, Zh, Zi, Zj, Zk, Zl, Zm, Zn, Zo, Zp, Zq, Zr, reduceIte, reduceCtorEq, Zs, Zt, Zu, Zv]
    refine wr_11 (put1 _ b b5 9 (s) (nm) _ (by simp [rdObj, hF5, lk]) (by (try simp only [List.length_append, List.length_cons, List.length_nil]); omega)) hp hb5 hb3 fun Hw0 hpw0 hdw0_0 hdw0_1 => ?_
    simp (disch := first | assumption | exact Ne.symm (by assumption) | omega) only [hF3, hact', hF5, Int.reduceBEq, ↓ZD, ZU, ZR, Za, Zb, Zc, Zd, Ze, Zf, Zg, Zh, Zi, Zj, Zk, Zl, Zm, Zn, Zo, Zp, Zq, Zr, reduceIte, reduceCtorEq, Zs, Zt, Zu, Zv]
    by_cases k0 : kind = 0
    · have e0 : (kind == 0) = true := by simpa using k0
      simp (disch := first | assumption | exact Ne.symm (by assumption) | omega) only [hF3, hact', e0, Int.reduceBEq, ↓ZD, ZU, ZR, Za, Zb, Zc, Zd, Ze, Zf, Zg, Zh, Zi, Zj, Zk, Zl, Zm, Zn, Zo, Zp, Zq, Zr, reduceIte, reduceCtorEq, Zs, Zt, Zu, Zv]
      have hmT : mT = [] := by rw [hmT]; simp [hna, k0]
      have hmO : mO = true := by rw [hmO]; simp [hna, k0]
      refine wr_01 (must_wr _ b (s ++ nm) (bad) (!slot)) hpw0 hdw0_1 fun Hw1 hpw1 hdw1_0 => ?_
      simp (disch := first | assumption | exact Ne.symm (by assumption) | omega) only [hF3, hact', e0, Int.reduceBEq, ↓ZD, ZU, ZR, Za, Zb, Zc, Zd, Ze, Zf, Zg, Zh, Zi, Zj, Zk, Zl, Zm, Zn, Zo, Zp, Zq, Zr, reduceIte, reduceCtorEq, Zs, Zt, Zu, Zv]
      refine ⟨Hw1, by simp +contextual, hpw1.cast (by rw [hmT]; simp) (by first | (rw [hmO]; done) | (rw [hmO]; cases bad <;> cases slot <;> simp))⟩
    have e0 : (kind == 0) = false := by simpa using k0
    by_cases k1 : kind = 1
    · have e1 : (kind == 1) = true := by simpa using k1
      simp (disch := first | assumption | exact Ne.symm (by assumption) | omega) only [hF3, hact', e0, e1, Int.reduceBEq, ↓ZD, ZU, ZR, Za, Zb, Zc, Zd, Ze, Zf, Zg, Zh, Zi, Zj, Zk, Zl, Zm, Zn, Zo, Zp, Zq, Zr, reduceIte, reduceCtorEq, Zs, Zt, Zu, Zv]
      refine new_2 fun b6 he6_0 he6_1 hb6 hF6 => ?_
      simp (disch := first | assumption | exact Ne.symm (by assumption) | omega) only [hF3, hact', e0, e1, hF6, Int.reduceBEq, ↓ZD, ZU, ZR, Za, Zb, Zc, Zd, Ze, Zf, Zg, Zh, Zi, Zj, Zk, Zl, Zm, Zn, Zo, Zp, Zq, Zr, reduceIte, reduceCtorEq, Zs, Zt, Zu, Zv]
      refine wr_101 (put1 _ b b6 9 (s ++ nm) ([32, 61, 61, 32]) _ (by simp [rdObj, hF6, lk]) (by (try simp only [List.length_append, List.length_cons, List.length_nil]); omega)) hpw0 hb6 hdw0_1 fun Hw1 hpw1 hdw1_0 hdw1_1 => ?_
      simp (disch := first | assumption | exact Ne.symm (by assumption) | omega) only [hF3, hact', e0, e1, hF6, Int.reduceBEq, ↓ZD, ZU, ZR, Za, Zb, Zc, Zd, Ze, Zf, Zg, Zh, Zi, Zj, Zk, Zl, Zm, Zn, Zo, Zp, Zq, Zr, reduceIte, reduceCtorEq, Zs, Zt, Zu, Zv]
      refine wr_01 (hpl _ le_up b (s ++ nm ++ [32, 61, 61, 32]) (bad) (by (try simp only [List.length_append, List.length_cons, List.length_nil]); omega)) hpw1 hdw1_1 fun Hw2 hpw2 hdw2_0 => ?_
      simp (disch := first | assumption | exact Ne.symm (by assumption) | omega) only [hF3, hact', e0, e1, hF6, Int.reduceBEq, ↓ZD, ZU, ZR, Za, Zb, Zc, Zd, Ze, Zf, Zg, Zh, Zi, Zj, Zk, Zl, Zm, Zn, Zo, Zp, Zq, Zr, reduceIte, reduceCtorEq, Zs, Zt, Zu, Zv]
      have hmT : mT = [32, 61, 61, 32] ++ P := by rw [hmT]; simp [hna, k0, k1]
      have hmO : mO = Po := by rw [hmO]; simp [hna, k0, k1]
      refine wr_1 (must_wr _ b (s ++ nm ++ [32, 61, 61, 32] ++ P) (bad || !Po) (!slot)) hpw2 hdw2_0 fun Hw3 hpw3 hdw3_0 => ?_
      simp (disch := first | assumption | exact Ne.symm (by assumption) | omega) only [hF3, hact', e0, e1, hF6, Int.reduceBEq, ↓ZD, ZU, ZR, Za, Zb, Zc, Zd, Ze, Zf, Zg, Zh, Zi, Zj, Zk, Zl, Zm, Zn, Zo, Zp, Zq, Zr, reduceIte, reduceCtorEq, Zs, Zt, Zu, Zv]
      refine ⟨Hw3, by simp +contextual, hpw3.cast (by rw [hmT]; simp) (by first | (rw [hmO]; done) | (rw [hmO]; cases bad <;> cases slot <;> simp))⟩
    have e1 : (kind == 1) = false := by simpa using k1
    by_cases k2 : kind = 2
    · have e2 : (kind == 2) = true := by simpa using k2
      simp (disch := first | assumption | exact Ne.symm (by assumption) | omega) only [hF3, hact', e0, e1, e2, Int.reduceBEq, ↓ZD, ZU, ZR, Za, Zb, Zc, Zd, Ze, Zf, Zg, Zh, Zi, Zj, Zk, Zl, Zm, Zn, Zo, Zp, Zq, Zr, reduceIte, reduceCtorEq, Zs, Zt, Zu, Zv]
      refine new_2 fun b6 he6_0 he6_1 hb6 hF6 => ?_
      simp (disch := first | assumption | exact Ne.symm (by assumption) | omega) only [hF3, hact', e0, e1, e2, hF6, Int.reduceBEq, ↓ZD, ZU, ZR, Za, Zb, Zc, Zd, Ze, Zf, Zg, Zh, Zi, Zj, Zk, Zl, Zm, Zn, Zo, Zp, Zq, Zr, reduceIte, reduceCtorEq, Zs, Zt, Zu, Zv]
      refine wr_101 (put1 _ b b6 9 (s ++ nm) ([32, 105, 110, 32]) _ (by simp [rdObj, hF6, lk]) (by (try simp only [List.length_append, List.length_cons, List.length_nil]); omega)) hpw0 hb6 hdw0_1 fun Hw1 hpw1 hdw1_0 hdw1_1 => ?_
      simp (disch := first | assumption | exact Ne.symm (by assumption) | omega) only [hF3, hact', e0, e1, e2, hF6, Int.reduceBEq, ↓ZD, ZU, ZR, Za, Zb, Zc, Zd, Ze, Zf, Zg, Zh, Zi, Zj, Zk, Zl, Zm, Zn, Zo, Zp, Zq, Zr, reduceIte, reduceCtorEq, Zs, Zt, Zu, Zv]
      refine wr_01 (hpl _ le_up b (s ++ nm ++ [32, 105, 110, 32]) (bad) (by (try simp only [List.length_append, List.length_cons, List.length_nil]); omega)) hpw1 hdw1_1 fun Hw2 hpw2 hdw2_0 => ?_
      simp (disch := first | assumption | exact Ne.symm (by assumption) | omega) only [hF3, hact', e0, e1, e2, hF6, Int.reduceBEq, ↓ZD, ZU, ZR, Za, Zb, Zc, Zd, Ze, Zf, Zg, Zh, Zi, Zj, Zk, Zl, Zm, Zn, Zo, Zp, Zq, Zr, reduceIte, reduceCtorEq, Zs, Zt, Zu, Zv]
      have hmT : mT = [32, 105, 110, 32] ++ P := by rw [hmT]; simp [hna, k0, k1, k2]
      have hmO : mO = Po := by rw [hmO]; simp [hna, k0, k1, k2]
      refine wr_1 (must_wr _ b (s ++ nm ++ [32, 105, 110, 32] ++ P) (bad || !Po) (!slot)) hpw2 hdw2_0 fun Hw3 hpw3 hdw3_0 => ?_
      simp (disch := first | assumption | exact Ne.symm (by assumption) | omega) only [hF3, hact', e0, e1, e2, hF6, Int.reduceBEq, ↓ZD, ZU, ZR, Za, Zb, Zc, Zd, Ze, Zf, Zg, Zh, Zi, Zj, Zk, Zl, Zm, Zn, Zo, Zp, Zq, Zr, reduceIte, reduceCtorEq, Zs, Zt, Zu, Zv]
      refine ⟨Hw3, by simp +contextual, hpw3.cast (by rw [hmT]; simp) (by first | (rw [hmO]; done) | (rw [hmO]; cases bad <;> cases slot <;> simp))⟩
    have e2 : (kind == 2) = false := by simpa using k2
    by_cases k3 : kind = 3
    · have e3 : (kind == 3) = true := by simpa using k3
      have e4 : (kind == 4) = false := by simp <;> omega
      have e5 : (kind == 5) = false := by simp <;> omega
      simp (disch := first | assumption | exact Ne.symm (by assumption) | omega) only [hF3, hact', e0, e1, e2, e3, e4, e5, Int.reduceBEq, ↓ZD, ZU, ZR, Za, Zb, Zc, Zd, Ze, Zf, Zg, Zh, Zi, Zj, Zk, Zl, Zm, Zn, Zo, Zp, Zq, Zr, reduceIte, reduceCtorEq, Zs, Zt, Zu, Zv]
      refine wr_01 (must_wr _ b (s ++ nm) (bad) false) hpw0 hdw0_1 fun Hw1 hpw1 hdw1_0 => ?_
      simp (disch := first | assumption | exact Ne.symm (by assumption) | omega) only [hF3, hact', e0, e1, e2, e3, e4, e5, Int.reduceBEq, ↓ZD, ZU, ZR, Za, Zb, Zc, Zd, Ze, Zf, Zg, Zh, Zi, Zj, Zk, Zl, Zm, Zn, Zo, Zp, Zq, Zr, reduceIte, reduceCtorEq, Zs, Zt, Zu, Zv]
      have hmT : mT = [] := by rw [hmT]; simp [hna, k0, k1, k2, k3]
      have hmO : mO = false := by rw [hmO]; simp [hna, k0, k1, k2, k3]
      refine wr_1 (must_wr _ b (s ++ nm) (bad || !false) (!slot)) hpw1 hdw1_0 fun Hw2 hpw2 hdw2_0 => ?_
      simp (disch := first | assumption | exact Ne.symm (by assumption) | omega) only [hF3, hact', e0, e1, e2, e3, e4, e5, Int.reduceBEq, ↓ZD, ZU, ZR, Za, Zb, Zc, Zd, Ze, Zf, Zg, Zh, Zi, Zj, Zk, Zl, Zm, Zn, Zo, Zp, Zq, Zr, reduceIte, reduceCtorEq, Zs, Zt, Zu, Zv]
      refine ⟨Hw2, by simp +contextual, hpw2.cast (by rw [hmT]; simp) (by first | (rw [hmO]; done) | (rw [hmO]; cases bad <;> cases slot <;> simp))⟩
    have e3 : (kind == 3) = false := by simpa using k3
    by_cases k4 : kind = 4
    · have e4 : (kind == 4) = true := by simpa using k4
      have e5 : (kind == 5) = false := by simp <;> omega
      simp (disch := first | assumption | exact Ne.symm (by assumption) | omega) only [hF3, hact', e0, e1, e2, e3, e4, e5, Int.reduceBEq, ↓ZD, ZU, ZR, Za, Zb, Zc, Zd, Ze, Zf, Zg, Zh, Zi, Zj, Zk, Zl, Zm, Zn, Zo, Zp, Zq, Zr, reduceIte, reduceCtorEq, Zs, Zt, Zu, Zv]
      refine wr_01 (must_wr _ b (s ++ nm) (bad) false) hpw0 hdw0_1 fun Hw1 hpw1 hdw1_0 => ?_
      simp (disch := first | assumption | exact Ne.symm (by assumption) | omega) only [hF3, hact', e0, e1, e2, e3, e4, e5, Int.reduceBEq, ↓ZD, ZU, ZR, Za, Zb, Zc, Zd, Ze, Zf, Zg, Zh, Zi, Zj, Zk, Zl, Zm, Zn, Zo, Zp, Zq, Zr, reduceIte, reduceCtorEq, Zs, Zt, Zu, Zv]
      have hmT : mT = [] := by rw [hmT]; simp [hna, k0, k1, k2, k3, k4]
      have hmO : mO = false := by rw [hmO]; simp [hna, k0, k1, k2, k3, k4]
      refine wr_1 (must_wr _ b (s ++ nm) (bad || !false) (!slot)) hpw1 hdw1_0 fun Hw2 hpw2 hdw2_0 => ?_
      simp (disch := first | assumption | exact Ne.symm (by assumption) | omega) only [hF3, hact', e0, e1, e2, e3, e4, e5, Int.reduceBEq, ↓ZD, ZU, ZR, Za, Zb, Zc, Zd, Ze, Zf, Zg, Zh, Zi, Zj, Zk, Zl, Zm, Zn, Zo, Zp, Zq, Zr, reduceIte, reduceCtorEq, Zs, Zt, Zu, Zv]
      refine ⟨Hw2, by simp +contextual, hpw2.cast (by rw [hmT]; simp) (by first | (rw [hmO]; done) | (rw [hmO]; cases bad <;> cases slot <;> simp))⟩
    have e4 : (kind == 4) = false := by simpa using k4
    by_cases k5 : kind = 5
    · have e5 : (kind == 5) = true := by simpa using k5
      simp (disch := first | assumption | exact Ne.symm (by assumption) | omega) only [hF3, hact', e0, e1, e2, e3, e4, e5, Int.reduceBEq, ↓ZD, ZU, ZR, Za, Zb, Zc, Zd, Ze, Zf, Zg, Zh, Zi, Zj, Zk, Zl, Zm, Zn, Zo, Zp, Zq, Zr, reduceIte, reduceCtorEq, Zs, Zt, Zu, Zv]
      refine new_2 fun b6 he6_0 he6_1 hb6 hF6 => ?_
      simp (disch := first | assumption | exact Ne.symm (by assumption) | omega) only [hF3, hact', e0, e1, e2, e3, e4, e5, hF6, Int.reduceBEq, ↓ZD, ZU, ZR, Za, Zb, Zc, Zd, Ze, Zf, Zg, Zh, Zi, Zj, Zk, Zl, Zm, Zn, Zo, Zp, Zq, Zr, reduceIte, reduceCtorEq, Zs, Zt, Zu, Zv]
      refine wr_101 (put1 _ b b6 9 (s ++ nm) ([32, 105, 110, 32, 91]) _ (by simp [rdObj, hF6, lk]) (by (try simp only [List.length_append, List.length_cons, List.length_nil]); omega)) hpw0 hb6 hdw0_1 fun Hw1 hpw1 hdw1_0 hdw1_1 => ?_
      simp (disch := first | assumption | exact Ne.symm (by assumption) | omega) only [hF3, hact', e0, e1, e2, e3, e4, e5, hF6, Int.reduceBEq, ↓ZD, ZU, ZR, Za, Zb, Zc, Zd, Ze, Zf, Zg, Zh, Zi, Zj, Zk, Zl, Zm, Zn, Zo, Zp, Zq, Zr, reduceIte, reduceCtorEq, Zs, Zt, Zu, Zv]
      refine LoopL.inv (α := Nat × Hp) (fun u => u.1 ≤ l.length ∧ Pst F b (s ++ nm ++ [32, 105, 110, 32, 91] ++ rowT ahQ 0 ((uidsT l).take u.1)) (bad || !((l.take u.1).all fun p => okPath p.1)) u.2 ∧ ∀ e ∈ u.2, e.1 ≠ b3)
        (fun u => [(0, some (.pointer (some ⟨b, 0, none⟩))), (4, some (.pointer (some ⟨b3, 0, none⟩))), (6, some (.bool true)), (84, some (.slice a l.length c)), (85, some (.int .i64 l.length)), (86, some (.int .i64 u.1))])
        (fun u => [(b3, .cells #[Value.int IntKind.i64 kind, Value.string (bs ty), Value.string (bs ut), Value.string (bs ui), Value.bool slot, Value.slice a l.length c] 41 (0, 0))] ++ u.2) (fun u => l.length - u.1) (0, Hw1) ⟨Nat.zero_le _, by simpa [rowT] using hpw1, hdw1_1⟩ (by (simp only [Le_nil, Le_cons]; simp (disch := first | assumption | exact Ne.symm (by assumption) | omega) only [↓ZD, ZU, ZR, Za, Zb, Zc, Zd, Ze, Zf, Zg, Zh, Zi, Zj, Zk, Zl, Zm, Zn, Zo, Zp, Zq, Zr, reduceIte, reduceCtorEq, Zs, Zt, Zu, Zv]; try trivial)) ?_ ?_
      · exact ⟨by simp [lk, he6_1, Ne.symm he6_1], HLe_pre2 hpw1.lk hdw1_0 hdw1_1⟩
      rintro ⟨i, H⟩ ⟨hi, hpi, hd3⟩
      simp only at hi hpi hd3 ⊢
      have hue := uids_len l
      have hql := rowQ_len (uidsT l)
      have hul : (uidsT l).length = l.length := by simp [uidsT]
      by_cases hlt : i < l.length
      · have hd : decide ((i : Int) < (l.length : Int)) = true := by simp; omega
        have gx : l[i]? = some (l.getD i ([], [])) := getDs _ hlt
        generalize l.getD i ([], []) = p at gx
        have gu : (uidsT l)[i]? = some (uidT p.1 p.2) := by simp [uidsT, gx]
        have hps := sumP_mem (List.mem_of_getElem? gx)
        have hle := rowT_take_le ahQ (uidsT l) (i + 1)
        have e9 := rowT_take ahQ gu
        rw [e9] at hle
        simp only [List.length_append] at hle
        have e10 : (bad || !((l.take (i + 1)).all fun p => okPath p.1)) = (bad || !((l.take i).all fun p => okPath p.1) || !okPath p.1) := by
          rw [take_snoc gx, List.all_append]; simp
          cases bad <;> simp
        obtain ⟨ba, oa, rfl, hla⟩ := (hh i p gx).ldn
        have hsl : (s ++ nm ++ [32, 105, 110, 32, 91] ++ rowT ahQ 0 ((uidsT l).take i)).length + ((if 0 < i then ([44, 32] : Str) else []).length + (uidT p.1 p.2).length) ≤ 100000000000000 := by
          simp only [List.length_append, List.length_cons, List.length_nil, ahQ] at hle ⊢; omega
        generalize hS : s ++ nm ++ [32, 105, 110, 32, 91] ++ rowT ahQ 0 ((uidsT l).take i) = S at hpi hsl
        generalize hB : (bad || !((l.take i).all fun p => okPath p.1)) = B at hpi e10
        by_cases h0 : 0 < i
        · have hz : decide ((0 : Int) < (i : Int)) = true := by simp; omega
          rw [if_pos h0] at hsl
          simp only [List.length_cons, List.length_nil] at hsl
          simp (disch := first | assumption | exact Ne.symm (by assumption) | omega) only [hF3, hact', e0, e1, e2, e3, e4, e5, hd, hz, Nat.mul_one, Int.reduceBEq, ↓ZD, ZU, ZR, Za, Zb, Zc, Zd, Ze, Zf, Zg, Zh, Zi, Zj, Zk, Zl, Zm, Zn, Zo, Zp, Zq, Zr, reduceIte, reduceCtorEq, Zs, Zt, Zu, Zv]
          refine conj.of (by omega) ?_
          simp (disch := first | assumption | exact Ne.symm (by assumption) | omega) only [hF3, hact', e0, e1, e2, e3, e4, e5, hd, hz, Int.toNat_natCast, ↓hla, Int.reduceBEq, ↓ZD, ZU, ZR, Za, Zb, Zc, Zd, Ze, Zf, Zg, Zh, Zi, Zj, Zk, Zl, Zm, Zn, Zo, Zp, Zq, Zr, reduceIte, reduceCtorEq, Zs, Zt, Zu, Zv]
          refine NewB.of fun b7 hb7 hF7 => ?_
          simp only [List.forall_mem_cons] at hb7
          obtain ⟨he7_0, hb7⟩ := hb7
          have hu : ∀ o, upd H b7 o = H := fun o => upd_new hb7
          simp (disch := first | assumption | exact Ne.symm (by assumption) | omega) only [hF3, hact', e0, e1, e2, e3, e4, e5, hd, hz, hF7, hu, Int.reduceBEq, ↓ZD, ZU, ZR, Za, Zb, Zc, Zd, Ze, Zf, Zg, Zh, Zi, Zj, Zk, Zl, Zm, Zn, Zo, Zp, Zq, Zr, reduceIte, reduceCtorEq, Zs, Zt, Zu, Zv]
          refine new_2 fun b8 he8_0 he8_1 hb8 hF8 => ?_
          simp (disch := first | assumption | exact Ne.symm (by assumption) | omega) only [hF3, hact', e0, e1, e2, e3, e4, e5, hd, hz, hF7, hu, hF8, Int.reduceBEq, ↓ZD, ZU, ZR, Za, Zb, Zc, Zd, Ze, Zf, Zg, Zh, Zi, Zj, Zk, Zl, Zm, Zn, Zo, Zp, Zq, Zr, reduceIte, reduceCtorEq, Zs, Zt, Zu, Zv]
          refine wr_111 (put1 _ b b8 9 (S) ([44, 32]) _ (by simp [rdObj, hF8, lk]) (by (try simp only [List.length_append, List.length_cons, List.length_nil]); omega)) hpi hb8 hb7 hd3 fun Hw2 hpw2 hdw2_0 hdw2_1 hdw2_2 => ?_
          simp (disch := first | assumption | exact Ne.symm (by assumption) | omega) only [hF3, hact', e0, e1, e2, e3, e4, e5, hd, hz, hF7, hu, hF8, Int.reduceBEq, ↓ZD, ZU, ZR, Za, Zb, Zc, Zd, Ze, Zf, Zg, Zh, Zi, Zj, Zk, Zl, Zm, Zn, Zo, Zp, Zq, Zr, reduceIte, reduceCtorEq, Zs, Zt, Zu, Zv]
          refine wr_011 (uid_wr _ (hg.mono le_up) b (S ++ [44, 32]) (B) p.1 p.2 (by (try simp only [List.length_append, List.length_cons, List.length_nil]); omega) (by unfold Sm; omega) (by unfold Sm; omega)) hpw2 hdw2_1 hdw2_2 fun Hw3 hpw3 hdw3_0 hdw3_1 => ?_
          simp (disch := first | assumption | exact Ne.symm (by assumption) | omega) only [hF3, hact', e0, e1, e2, e3, e4, e5, hd, hz, hF7, hu, hF8, Int.reduceBEq, ↓ZD, ZU, ZR, Za, Zb, Zc, Zd, Ze, Zf, Zg, Zh, Zi, Zj, Zk, Zl, Zm, Zn, Zo, Zp, Zq, Zr, reduceIte, reduceCtorEq, Zs, Zt, Zu, Zv]
          refine invK.on (i + 1, Hw3) ⟨by show i + 1 ≤ _; omega, hpw3.cast (by rw [e9, ← List.append_assoc, hS, if_pos h0]; simp [ahQ]) e10.symm, hdw3_1⟩ (by show _ - (i + 1) < _ - i; omega) ?_ ?_
          · simp only [Le_nil, Le_cons]; simp (disch := first | assumption | exact Ne.symm (by assumption) | omega) only [↓ZD, ZU, ZR, Za, Zb, Zc, Zd, Ze, Zf, Zg, Zh, Zi, Zj, Zk, Zl, Zm, Zn, Zo, Zp, Zq, Zr, reduceIte, reduceCtorEq, Zs, Zt, Zu, Zv]; first | done | trivial | rfl
          · exact ⟨by simp [lk, he7_0, Ne.symm he7_0], HLe_pre2 hpw3.lk hdw3_0 hdw3_1⟩
        · have hz : decide ((0 : Int) < (i : Int)) = false := by simp; omega
          rw [if_neg h0] at hsl
          simp only [List.length_cons, List.length_nil] at hsl
          simp (disch := first | assumption | exact Ne.symm (by assumption) | omega) only [hF3, hact', e0, e1, e2, e3, e4, e5, hd, hz, Nat.mul_one, Int.reduceBEq, ↓ZD, ZU, ZR, Za, Zb, Zc, Zd, Ze, Zf, Zg, Zh, Zi, Zj, Zk, Zl, Zm, Zn, Zo, Zp, Zq, Zr, reduceIte, reduceCtorEq, Zs, Zt, Zu, Zv]
          refine conj.of (by omega) ?_
          simp (disch := first | assumption | exact Ne.symm (by assumption) | omega) only [hF3, hact', e0, e1, e2, e3, e4, e5, hd, hz, Int.toNat_natCast, ↓hla, Int.reduceBEq, ↓ZD, ZU, ZR, Za, Zb, Zc, Zd, Ze, Zf, Zg, Zh, Zi, Zj, Zk, Zl, Zm, Zn, Zo, Zp, Zq, Zr, reduceIte, reduceCtorEq, Zs, Zt, Zu, Zv]
          refine NewB.of fun b7 hb7 hF7 => ?_
          simp only [List.forall_mem_cons] at hb7
          obtain ⟨he7_0, hb7⟩ := hb7
          have hu : ∀ o, upd H b7 o = H := fun o => upd_new hb7
          simp (disch := first | assumption | exact Ne.symm (by assumption) | omega) only [hF3, hact', e0, e1, e2, e3, e4, e5, hd, hz, hF7, hu, Int.reduceBEq, ↓ZD, ZU, ZR, Za, Zb, Zc, Zd, Ze, Zf, Zg, Zh, Zi, Zj, Zk, Zl, Zm, Zn, Zo, Zp, Zq, Zr, reduceIte, reduceCtorEq, Zs, Zt, Zu, Zv]
          refine wr_11 (uid_wr _ (hg.mono le_up) b (S) (B) p.1 p.2 (by (try simp only [List.length_append, List.length_cons, List.length_nil]); omega) (by unfold Sm; omega) (by unfold Sm; omega)) hpi hb7 hd3 fun Hw2 hpw2 hdw2_0 hdw2_1 => ?_
          simp (disch := first | assumption | exact Ne.symm (by assumption) | omega) only [hF3, hact', e0, e1, e2, e3, e4, e5, hd, hz, hF7, hu, Int.reduceBEq, ↓ZD, ZU, ZR, Za, Zb, Zc, Zd, Ze, Zf, Zg, Zh, Zi, Zj, Zk, Zl, Zm, Zn, Zo, Zp, Zq, Zr, reduceIte, reduceCtorEq, Zs, Zt, Zu, Zv]
          refine invK.on (i + 1, Hw2) ⟨by show i + 1 ≤ _; omega, hpw2.cast (by rw [e9, ← List.append_assoc, hS, if_neg h0]; simp [ahQ]) e10.symm, hdw2_1⟩ (by show _ - (i + 1) < _ - i; omega) ?_ ?_
          · simp only [Le_nil, Le_cons]; simp (disch := first | assumption | exact Ne.symm (by assumption) | omega) only [↓ZD, ZU, ZR, Za, Zb, Zc, Zd, Ze, Zf, Zg, Zh, Zi, Zj, Zk, Zl, Zm, Zn, Zo, Zp, Zq, Zr, reduceIte, reduceCtorEq, Zs, Zt, Zu, Zv]; first | done | trivial | rfl
          · exact ⟨by simp [lk, he7_0, Ne.symm he7_0], HLe_pre2 hpw2.lk hdw2_0 hdw2_1⟩
      · have hd : decide ((i : Int) < (l.length : Int)) = false := by simp; omega
        obtain rfl : i = l.length := by omega
        rw [List.take_of_length_le (by omega), List.take_length] at hpi
        simp (disch := first | assumption | exact Ne.symm (by assumption) | omega) only [hF3, hact', e0, e1, e2, e3, e4, e5, hd, Int.reduceBEq, ↓ZD, ZU, ZR, Za, Zb, Zc, Zd, Ze, Zf, Zg, Zh, Zi, Zj, Zk, Zl, Zm, Zn, Zo, Zp, Zq, Zr, reduceIte, reduceCtorEq, Zs, Zt, Zu, Zv]
        refine new_1 fun b7 he7_0 hb7 hF7 => ?_
        simp (disch := first | assumption | exact Ne.symm (by assumption) | omega) only [hF3, hact', e0, e1, e2, e3, e4, e5, hd, hF7, Int.reduceBEq, ↓ZD, ZU, ZR, Za, Zb, Zc, Zd, Ze, Zf, Zg, Zh, Zi, Zj, Zk, Zl, Zm, Zn, Zo, Zp, Zq, Zr, reduceIte, reduceCtorEq, Zs, Zt, Zu, Zv]
        refine wr_11 (put1 _ b b7 9 (s ++ nm ++ [32, 105, 110, 32, 91] ++ rowT ahQ 0 (uidsT l)) ([93]) _ (by simp [rdObj, hF7, lk]) (by (try simp only [List.length_append, List.length_cons, List.length_nil]); omega)) hpi hb7 hd3 fun Hw2 hpw2 hdw2_0 hdw2_1 => ?_
        simp (disch := first | assumption | exact Ne.symm (by assumption) | omega) only [hF3, hact', e0, e1, e2, e3, e4, e5, hd, hF7, Int.reduceBEq, ↓ZD, ZU, ZR, Za, Zb, Zc, Zd, Ze, Zf, Zg, Zh, Zi, Zj, Zk, Zl, Zm, Zn, Zo, Zp, Zq, Zr, reduceIte, reduceCtorEq, Zs, Zt, Zu, Zv]
        have hmT : mT = [32, 105, 110, 32, 91] ++ (rowT ahQ 0 (uidsT l) ++ [93]) := by rw [hmT]; simp [hna, k0, k1, k2, k3, k4, k5]
        have hmO : mO = (l.all fun p => okPath p.1) := by rw [hmO]; simp [hna, k0, k1, k2, k3, k4, k5]
        refine wr_01 (must_wr _ b (s ++ nm ++ [32, 105, 110, 32, 91] ++ rowT ahQ 0 (uidsT l) ++ [93]) (bad || !(l.all fun p => okPath p.1)) (!slot)) hpw2 hdw2_1 fun Hw3 hpw3 hdw3_0 => ?_
        simp (disch := first | assumption | exact Ne.symm (by assumption) | omega) only [hF3, hact', e0, e1, e2, e3, e4, e5, hd, hF7, Int.reduceBEq, ↓ZD, ZU, ZR, Za, Zb, Zc, Zd, Ze, Zf, Zg, Zh, Zi, Zj, Zk, Zl, Zm, Zn, Zo, Zp, Zq, Zr, reduceIte, reduceCtorEq, Zs, Zt, Zu, Zv]
        refine ⟨Hw3, by simp +contextual, hpw3.cast (by rw [hmT]; simp) (by first | (rw [hmO]; done) | (rw [hmO]; cases bad <;> cases slot <;> simp))⟩
    have e5 : (kind == 5) = false := by simpa using k5
    simp (disch := first | assumption | exact Ne.symm (by assumption) | omega) only [hF3, hact', e0, e1, e2, e3, e4, e5, Int.reduceBEq, ↓ZD, ZU, ZR, Za, Zb, Zc, Zd, Ze, Zf, Zg, Zh, Zi, Zj, Zk, Zl, Zm, Zn, Zo, Zp, Zq, Zr, reduceIte, reduceCtorEq, Zs, Zt, Zu, Zv]
    refine wr_01 (must_wr _ b (s ++ nm) (bad) false) hpw0 hdw0_1 fun Hw1 hpw1 hdw1_0 => ?_
    simp (disch := first | assumption | exact Ne.symm (by assumption) | omega) only [hF3, hact', e0, e1, e2, e3, e4, e5, Int.reduceBEq, ↓ZD, ZU, ZR, Za, Zb, Zc, Zd, Ze, Zf, Zg, Zh, Zi, Zj, Zk, Zl, Zm, Zn, Zo, Zp, Zq, Zr, reduceIte, reduceCtorEq, Zs, Zt, Zu, Zv]
    have hmT : mT = [] := by rw [hmT]; simp [hna, k0, k1, k2, k3, k4, k5]
    have hmO : mO = false := by rw [hmO]; simp [hna, k0, k1, k2, k3, k4, k5]
    refine wr_1 (must_wr _ b (s ++ nm) (bad || !false) (!slot)) hpw1 hdw1_0 fun Hw2 hpw2 hdw2_0 => ?_
    simp (disch := first | assumption | exact Ne.symm (by assumption) | omega) only [hF3, hact', e0, e1, e2, e3, e4, e5, Int.reduceBEq, ↓ZD, ZU, ZR, Za, Zb, Zc, Zd, Ze, Zf, Zg, Zh, Zi, Zj, Zk, Zl, Zm, Zn, Zo, Zp, Zq, Zr, reduceIte, reduceCtorEq, Zs, Zt, Zu, Zv]
    refine ⟨Hw2, by simp +contextual, hpw2.cast (by rw [hmT]; simp) (by first | (rw [hmO]; done) | (rw [hmO]; cases bad <;> cases slot <;> simp))⟩
  | false =>
    have hact' : (nm == [97, 99, 116, 105, 111, 110]) = false := hact
    have hna : ¬ nm = actN := by simpa using hact
    simp (disch := first | assumption | exact Ne.symm (by assumption) | omega) only [hact', fu39, Int.reduceBEq, ↓ZD, ZU, ZR, Za, Zb, Zc, Zd, Ze, Zf, Zg, Zh, Zi, Zj, Zk, Zl, Zm, Zn, Zo, Zp, Zq, Zr, reduceIte, reduceCtorEq, Zs, Zt, Zu, Zv]
    refine NewB.of fun b3 hb3 hF3 => ?_
    simp (disch := first | assumption | exact Ne.symm (by assumption) | omega) only [hF3, hact', Int.reduceBEq, ↓ZD, ZU, ZR, Za, Zb, Zc, Zd, Ze, Zf, Zg, Zh, Zi, Zj, Zk, Zl, Zm, Zn, Zo, Zp, Zq, Zr, reduceIte, reduceCtorEq, Zs, Zt, Zu, Zv]
    refine new_1 fun b5 he5_0 hb5 hF5 => ?_
    simp (disch := first | assumption | exact Ne.symm (by assumption) | omega) only [hF3, hact', hF5, Int.reduceBEq, ↓ZD, ZU, ZR, Za, Zb, Zc, Zd, Ze, Zf, Zg, Zh, Zi, Zj, Zk, Zl, Zm, Zn, Zo, Zp, Zq, Zr, reduceIte, reduceCtorEq, Zs, Zt, Zu, Zv]
    refine wr_11 (put1 _ b b5 9 (s) (nm) _ (by simp [rdObj, hF5, lk]) (by (try simp only [List.length_append, List.length_cons, List.length_nil]); omega)) hp hb5 hb3 fun Hw0 hpw0 hdw0_0 hdw0_1 => ?_
    simp (disch := first | assumption | exact Ne.symm (by assumption) | omega) only [hF3, hact', hF5, Int.reduceBEq, ↓ZD, ZU, ZR, Za, Zb, Zc, Zd, Ze, Zf, Zg, Zh, Zi, Zj, Zk, Zl, Zm, Zn, Zo, Zp, Zq, Zr, reduceIte, reduceCtorEq, Zs, Zt, Zu, Zv]
    by_cases k0 : kind = 0
    · have e0 : (kind == 0) = true := by simpa using k0
      simp (disch := first | assumption | exact Ne.symm (by assumption) | omega) only [hF3, hact', e0, Int.reduceBEq, ↓ZD, ZU, ZR, Za, Zb, Zc, Zd, Ze, Zf, Zg, Zh, Zi, Zj, Zk, Zl, Zm, Zn, Zo, Zp, Zq, Zr, reduceIte, reduceCtorEq, Zs, Zt, Zu, Zv]
      have hmT : mT = [] := by rw [hmT]; simp [hna, k0]
      have hmO : mO = true := by rw [hmO]; simp [hna, k0]
      refine wr_01 (must_wr _ b (s ++ nm) (bad) true) hpw0 hdw0_1 fun Hw1 hpw1 hdw1_0 => ?_
      simp (disch := first | assumption | exact Ne.symm (by assumption) | omega) only [hF3, hact', e0, Int.reduceBEq, ↓ZD, ZU, ZR, Za, Zb, Zc, Zd, Ze, Zf, Zg, Zh, Zi, Zj, Zk, Zl, Zm, Zn, Zo, Zp, Zq, Zr, reduceIte, reduceCtorEq, Zs, Zt, Zu, Zv]
      refine ⟨Hw1, by simp +contextual, hpw1.cast (by rw [hmT]; simp) (by first | (rw [hmO]; done) | (rw [hmO]; cases bad <;> cases slot <;> simp))⟩
    have e0 : (kind == 0) = false := by simpa using k0
    by_cases k1 : kind = 1
    · have e1 : (kind == 1) = true := by simpa using k1
      simp (disch := first | assumption | exact Ne.symm (by assumption) | omega) only [hF3, hact', e0, e1, Int.reduceBEq, ↓ZD, ZU, ZR, Za, Zb, Zc, Zd, Ze, Zf, Zg, Zh, Zi, Zj, Zk, Zl, Zm, Zn, Zo, Zp, Zq, Zr, reduceIte, reduceCtorEq, Zs, Zt, Zu, Zv]
      refine new_2 fun b6 he6_0 he6_1 hb6 hF6 => ?_
      simp (disch := first | assumption | exact Ne.symm (by assumption) | omega) only [hF3, hact', e0, e1, hF6, Int.reduceBEq, ↓ZD, ZU, ZR, Za, Zb, Zc, Zd, Ze, Zf, Zg, Zh, Zi, Zj, Zk, Zl, Zm, Zn, Zo, Zp, Zq, Zr, reduceIte, reduceCtorEq, Zs, Zt, Zu, Zv]
      refine wr_101 (put1 _ b b6 9 (s ++ nm) ([32, 61, 61, 32]) _ (by simp [rdObj, hF6, lk]) (by (try simp only [List.length_append, List.length_cons, List.length_nil]); omega)) hpw0 hb6 hdw0_1 fun Hw1 hpw1 hdw1_0 hdw1_1 => ?_
      simp (disch := first | assumption | exact Ne.symm (by assumption) | omega) only [hF3, hact', e0, e1, hF6, Int.reduceBEq, ↓ZD, ZU, ZR, Za, Zb, Zc, Zd, Ze, Zf, Zg, Zh, Zi, Zj, Zk, Zl, Zm, Zn, Zo, Zp, Zq, Zr, reduceIte, reduceCtorEq, Zs, Zt, Zu, Zv]
      refine wr_01 (hpl _ le_up b (s ++ nm ++ [32, 61, 61, 32]) (bad) (by (try simp only [List.length_append, List.length_cons, List.length_nil]); omega)) hpw1 hdw1_1 fun Hw2 hpw2 hdw2_0 => ?_
      simp (disch := first | assumption | exact Ne.symm (by assumption) | omega) only [hF3, hact', e0, e1, hF6, Int.reduceBEq, ↓ZD, ZU, ZR, Za, Zb, Zc, Zd, Ze, Zf, Zg, Zh, Zi, Zj, Zk, Zl, Zm, Zn, Zo, Zp, Zq, Zr, reduceIte, reduceCtorEq, Zs, Zt, Zu, Zv]
      have hmT : mT = [32, 61, 61, 32] ++ P := by rw [hmT]; simp [hna, k0, k1]
      have hmO : mO = Po := by rw [hmO]; simp [hna, k0, k1]
      refine wr_1 (must_wr _ b (s ++ nm ++ [32, 61, 61, 32] ++ P) (bad || !Po) true) hpw2 hdw2_0 fun Hw3 hpw3 hdw3_0 => ?_
      simp (disch := first | assumption | exact Ne.symm (by assumption) | omega) only [hF3, hact', e0, e1, hF6, Int.reduceBEq, ↓ZD, ZU, ZR, Za, Zb, Zc, Zd, Ze, Zf, Zg, Zh, Zi, Zj, Zk, Zl, Zm, Zn, Zo, Zp, Zq, Zr, reduceIte, reduceCtorEq, Zs, Zt, Zu, Zv]
      refine ⟨Hw3, by simp +contextual, hpw3.cast (by rw [hmT]; simp) (by first | (rw [hmO]; done) | (rw [hmO]; cases bad <;> cases slot <;> simp))⟩
    have e1 : (kind == 1) = false := by simpa using k1
    by_cases k2 : kind = 2
    · have e2 : (kind == 2) = true := by simpa using k2
      simp (disch := first | assumption | exact Ne.symm (by assumption) | omega) only [hF3, hact', e0, e1, e2, Int.reduceBEq, ↓ZD, ZU, ZR, Za, Zb, Zc, Zd, Ze, Zf, Zg, Zh, Zi, Zj, Zk, Zl, Zm, Zn, Zo, Zp, Zq, Zr, reduceIte, reduceCtorEq, Zs, Zt, Zu, Zv]
      refine new_2 fun b6 he6_0 he6_1 hb6 hF6 => ?_
      simp (disch := first | assumption | exact Ne.symm (by assumption) | omega) only [hF3, hact', e0, e1, e2, hF6, Int.reduceBEq, ↓ZD, ZU, ZR, Za, Zb, Zc, Zd, Ze, Zf, Zg, Zh, Zi, Zj, Zk, Zl, Zm, Zn, Zo, Zp, Zq, Zr, reduceIte, reduceCtorEq, Zs, Zt, Zu, Zv]
      refine wr_101 (put1 _ b b6 9 (s ++ nm) ([32, 105, 110, 32]) _ (by simp [rdObj, hF6, lk]) (by (try simp only [List.length_append, List.length_cons, List.length_nil]); omega)) hpw0 hb6 hdw0_1 fun Hw1 hpw1 hdw1_0 hdw1_1 => ?_
      simp (disch := first | assumption | exact Ne.symm (by assumption) | omega) only [hF3, hact', e0, e1, e2, hF6, Int.reduceBEq, ↓ZD, ZU, ZR, Za, Zb, Zc, Zd, Ze, Zf, Zg, Zh, Zi, Zj, Zk, Zl, Zm, Zn, Zo, Zp, Zq, Zr, reduceIte, reduceCtorEq, Zs, Zt, Zu, Zv]
      refine wr_01 (hpl _ le_up b (s ++ nm ++ [32, 105, 110, 32]) (bad) (by (try simp only [List.length_append, List.length_cons, List.length_nil]); omega)) hpw1 hdw1_1 fun Hw2 hpw2 hdw2_0 => ?_
      simp (disch := first | assumption | exact Ne.symm (by assumption) | omega) only [hF3, hact', e0, e1, e2, hF6, Int.reduceBEq, ↓ZD, ZU, ZR, Za, Zb, Zc, Zd, Ze, Zf, Zg, Zh, Zi, Zj, Zk, Zl, Zm, Zn, Zo, Zp, Zq, Zr, reduceIte, reduceCtorEq, Zs, Zt, Zu, Zv]
      have hmT : mT = [32, 105, 110, 32] ++ P := by rw [hmT]; simp [hna, k0, k1, k2]
      have hmO : mO = Po := by rw [hmO]; simp [hna, k0, k1, k2]
      refine wr_1 (must_wr _ b (s ++ nm ++ [32, 105, 110, 32] ++ P) (bad || !Po) true) hpw2 hdw2_0 fun Hw3 hpw3 hdw3_0 => ?_
      simp (disch := first | assumption | exact Ne.symm (by assumption) | omega) only [hF3, hact', e0, e1, e2, hF6, Int.reduceBEq, ↓ZD, ZU, ZR, Za, Zb, Zc, Zd, Ze, Zf, Zg, Zh, Zi, Zj, Zk, Zl, Zm, Zn, Zo, Zp, Zq, Zr, reduceIte, reduceCtorEq, Zs, Zt, Zu, Zv]
      refine ⟨Hw3, by simp +contextual, hpw3.cast (by rw [hmT]; simp) (by first | (rw [hmO]; done) | (rw [hmO]; cases bad <;> cases slot <;> simp))⟩
    have e2 : (kind == 2) = false := by simpa using k2
    by_cases k3 : kind = 3
    · have e3 : (kind == 3) = true := by simpa using k3
      have e4 : (kind == 4) = false := by simp <;> omega
      have e5 : (kind == 5) = false := by simp <;> omega
      simp (disch := first | assumption | exact Ne.symm (by assumption) | omega) only [hF3, hact', e0, e1, e2, e3, e4, e5, Int.reduceBEq, ↓ZD, ZU, ZR, Za, Zb, Zc, Zd, Ze, Zf, Zg, Zh, Zi, Zj, Zk, Zl, Zm, Zn, Zo, Zp, Zq, Zr, reduceIte, reduceCtorEq, Zs, Zt, Zu, Zv]
      refine new_2 fun b6 he6_0 he6_1 hb6 hF6 => ?_
      simp (disch := first | assumption | exact Ne.symm (by assumption) | omega) only [hF3, hact', e0, e1, e2, e3, e4, e5, hF6, Int.reduceBEq, ↓ZD, ZU, ZR, Za, Zb, Zc, Zd, Ze, Zf, Zg, Zh, Zi, Zj, Zk, Zl, Zm, Zn, Zo, Zp, Zq, Zr, reduceIte, reduceCtorEq, Zs, Zt, Zu, Zv]
      refine wr_101 (put1 _ b b6 9 (s ++ nm) ([32, 105, 115, 32]) _ (by simp [rdObj, hF6, lk]) (by (try simp only [List.length_append, List.length_cons, List.length_nil]); omega)) hpw0 hb6 hdw0_1 fun Hw1 hpw1 hdw1_0 hdw1_1 => ?_
      simp (disch := first | assumption | exact Ne.symm (by assumption) | omega) only [hF3, hact', e0, e1, e2, e3, e4, e5, hF6, Int.reduceBEq, ↓ZD, ZU, ZR, Za, Zb, Zc, Zd, Ze, Zf, Zg, Zh, Zi, Zj, Zk, Zl, Zm, Zn, Zo, Zp, Zq, Zr, reduceIte, reduceCtorEq, Zs, Zt, Zu, Zv]
      refine wr_01 (path_wr _ (hg.mono le_up) b (s ++ nm ++ [32, 105, 115, 32]) (bad) ty (by (try simp only [List.length_append, List.length_cons, List.length_nil]); omega) (by omega)) hpw1 hdw1_1 fun Hw2 hpw2 hdw2_0 => ?_
      simp (disch := first | assumption | exact Ne.symm (by assumption) | omega) only [hF3, hact', e0, e1, e2, e3, e4, e5, hF6, Int.reduceBEq, ↓ZD, ZU, ZR, Za, Zb, Zc, Zd, Ze, Zf, Zg, Zh, Zi, Zj, Zk, Zl, Zm, Zn, Zo, Zp, Zq, Zr, reduceIte, reduceCtorEq, Zs, Zt, Zu, Zv]
      have hmT : mT = [32, 105, 115, 32] ++ ty := by rw [hmT]; simp [hna, k0, k1, k2, k3]
      have hmO : mO = okPath ty := by rw [hmO]; simp [hna, k0, k1, k2, k3]
      refine wr_1 (must_wr _ b (s ++ nm ++ [32, 105, 115, 32] ++ ty) (bad || !okPath ty) true) hpw2 hdw2_0 fun Hw3 hpw3 hdw3_0 => ?_
      simp (disch := first | assumption | exact Ne.symm (by assumption) | omega) only [hF3, hact', e0, e1, e2, e3, e4, e5, hF6, Int.reduceBEq, ↓ZD, ZU, ZR, Za, Zb, Zc, Zd, Ze, Zf, Zg, Zh, Zi, Zj, Zk, Zl, Zm, Zn, Zo, Zp, Zq, Zr, reduceIte, reduceCtorEq, Zs, Zt, Zu, Zv]
      refine ⟨Hw3, by simp +contextual, hpw3.cast (by rw [hmT]; simp) (by first | (rw [hmO]; done) | (rw [hmO]; cases bad <;> cases slot <;> simp))⟩
    have e3 : (kind == 3) = false := by simpa using k3
    by_cases k4 : kind = 4
    · have e4 : (kind == 4) = true := by simpa using k4
      have e5 : (kind == 5) = false := by simp <;> omega
      simp (disch := first | assumption | exact Ne.symm (by assumption) | omega) only [hF3, hact', e0, e1, e2, e3, e4, e5, Int.reduceBEq, ↓ZD, ZU, ZR, Za, Zb, Zc, Zd, Ze, Zf, Zg, Zh, Zi, Zj, Zk, Zl, Zm, Zn, Zo, Zp, Zq, Zr, reduceIte, reduceCtorEq, Zs, Zt, Zu, Zv]
      refine new_2 fun b6 he6_0 he6_1 hb6 hF6 => ?_
      simp (disch := first | assumption | exact Ne.symm (by assumption) | omega) only [hF3, hact', e0, e1, e2, e3, e4, e5, hF6, Int.reduceBEq, ↓ZD, ZU, ZR, Za, Zb, Zc, Zd, Ze, Zf, Zg, Zh, Zi, Zj, Zk, Zl, Zm, Zn, Zo, Zp, Zq, Zr, reduceIte, reduceCtorEq, Zs, Zt, Zu, Zv]
      refine wr_101 (put1 _ b b6 9 (s ++ nm) ([32, 105, 115, 32]) _ (by simp [rdObj, hF6, lk]) (by (try simp only [List.length_append, List.length_cons, List.length_nil]); omega)) hpw0 hb6 hdw0_1 fun Hw1 hpw1 hdw1_0 hdw1_1 => ?_
      simp (disch := first | assumption | exact Ne.symm (by assumption) | omega) only [hF3, hact', e0, e1, e2, e3, e4, e5, hF6, Int.reduceBEq, ↓ZD, ZU, ZR, Za, Zb, Zc, Zd, Ze, Zf, Zg, Zh, Zi, Zj, Zk, Zl, Zm, Zn, Zo, Zp, Zq, Zr, reduceIte, reduceCtorEq, Zs, Zt, Zu, Zv]
      refine wr_01 (path_wr _ (hg.mono le_up) b (s ++ nm ++ [32, 105, 115, 32]) (bad) ty (by (try simp only [List.length_append, List.length_cons, List.length_nil]); omega) (by omega)) hpw1 hdw1_1 fun Hw2 hpw2 hdw2_0 => ?_
      simp (disch := first | assumption | exact Ne.symm (by assumption) | omega) only [hF3, hact', e0, e1, e2, e3, e4, e5, hF6, Int.reduceBEq, ↓ZD, ZU, ZR, Za, Zb, Zc, Zd, Ze, Zf, Zg, Zh, Zi, Zj, Zk, Zl, Zm, Zn, Zo, Zp, Zq, Zr, reduceIte, reduceCtorEq, Zs, Zt, Zu, Zv]
      refine new_1 fun b7 he7_0 hb7 hF7 => ?_
      simp (disch := first | assumption | exact Ne.symm (by assumption) | omega) only [hF3, hact', e0, e1, e2, e3, e4, e5, hF7, Int.reduceBEq, ↓ZD, ZU, ZR, Za, Zb, Zc, Zd, Ze, Zf, Zg, Zh, Zi, Zj, Zk, Zl, Zm, Zn, Zo, Zp, Zq, Zr, reduceIte, reduceCtorEq, Zs, Zt, Zu, Zv]
      refine wr_11 (put1 _ b b7 9 (s ++ nm ++ [32, 105, 115, 32] ++ ty) ([32, 105, 110, 32]) _ (by simp [rdObj, hF7, lk]) (by (try simp only [List.length_append, List.length_cons, List.length_nil]); omega)) hpw2 hb7 hdw2_0 fun Hw3 hpw3 hdw3_0 hdw3_1 => ?_
      simp (disch := first | assumption | exact Ne.symm (by assumption) | omega) only [hF3, hact', e0, e1, e2, e3, e4, e5, hF7, Int.reduceBEq, ↓ZD, ZU, ZR, Za, Zb, Zc, Zd, Ze, Zf, Zg, Zh, Zi, Zj, Zk, Zl, Zm, Zn, Zo, Zp, Zq, Zr, reduceIte, reduceCtorEq, Zs, Zt, Zu, Zv]
      refine wr_01 (hpl _ le_up b (s ++ nm ++ [32, 105, 115, 32] ++ ty ++ [32, 105, 110, 32]) (bad || !okPath ty) (by (try simp only [List.length_append, List.length_cons, List.length_nil]); omega)) hpw3 hdw3_1 fun Hw4 hpw4 hdw4_0 => ?_
      simp (disch := first | assumption | exact Ne.symm (by assumption) | omega) only [hF3, hact', e0, e1, e2, e3, e4, e5, hF7, Int.reduceBEq, ↓ZD, ZU, ZR, Za, Zb, Zc, Zd, Ze, Zf, Zg, Zh, Zi, Zj, Zk, Zl, Zm, Zn, Zo, Zp, Zq, Zr, reduceIte, reduceCtorEq, Zs, Zt, Zu, Zv]
      have hmT : mT = [32, 105, 115, 32] ++ (ty ++ ([32, 105, 110, 32] ++ P)) := by rw [hmT]; simp [hna, k0, k1, k2, k3, k4]
      have hmO : mO = (okPath ty && Po) := by rw [hmO]; simp [hna, k0, k1, k2, k3, k4]
      refine wr_1 (must_wr _ b (s ++ nm ++ [32, 105, 115, 32] ++ ty ++ [32, 105, 110, 32] ++ P) (bad || !okPath ty || !Po) true) hpw4 hdw4_0 fun Hw5 hpw5 hdw5_0 => ?_
      simp (disch := first | assumption | exact Ne.symm (by assumption) | omega) only [hF3, hact', e0, e1, e2, e3, e4, e5, hF7, Int.reduceBEq, ↓ZD, ZU, ZR, Za, Zb, Zc, Zd, Ze, Zf, Zg, Zh, Zi, Zj, Zk, Zl, Zm, Zn, Zo, Zp, Zq, Zr, reduceIte, reduceCtorEq, Zs, Zt, Zu, Zv]
      refine ⟨Hw5, by simp +contextual, hpw5.cast (by rw [hmT]; simp) (by first | (rw [hmO]; done) | (rw [hmO]; cases bad <;> cases slot <;> simp))⟩
    have e4 : (kind == 4) = false := by simpa using k4
    by_cases k5 : kind = 5
    · have e5 : (kind == 5) = true := by simpa using k5
      simp (disch := first | assumption | exact Ne.symm (by assumption) | omega) only [hF3, hact', e0, e1, e2, e3, e4, e5, Int.reduceBEq, ↓ZD, ZU, ZR, Za, Zb, Zc, Zd, Ze, Zf, Zg, Zh, Zi, Zj, Zk, Zl, Zm, Zn, Zo, Zp, Zq, Zr, reduceIte, reduceCtorEq, Zs, Zt, Zu, Zv]
      refine wr_01 (must_wr _ b (s ++ nm) (bad) false) hpw0 hdw0_1 fun Hw1 hpw1 hdw1_0 => ?_
      simp (disch := first | assumption | exact Ne.symm (by assumption) | omega) only [hF3, hact', e0, e1, e2, e3, e4, e5, Int.reduceBEq, ↓ZD, ZU, ZR, Za, Zb, Zc, Zd, Ze, Zf, Zg, Zh, Zi, Zj, Zk, Zl, Zm, Zn, Zo, Zp, Zq, Zr, reduceIte, reduceCtorEq, Zs, Zt, Zu, Zv]
      have hmT : mT = [] := by rw [hmT]; simp [hna, k0, k1, k2, k3, k4, k5]
      have hmO : mO = false := by rw [hmO]; simp [hna, k0, k1, k2, k3, k4, k5]
      refine wr_1 (must_wr _ b (s ++ nm) (bad || !false) true) hpw1 hdw1_0 fun Hw2 hpw2 hdw2_0 => ?_
      simp (disch := first | assumption | exact Ne.symm (by assumption) | omega) only [hF3, hact', e0, e1, e2, e3, e4, e5, Int.reduceBEq, ↓ZD, ZU, ZR, Za, Zb, Zc, Zd, Ze, Zf, Zg, Zh, Zi, Zj, Zk, Zl, Zm, Zn, Zo, Zp, Zq, Zr, reduceIte, reduceCtorEq, Zs, Zt, Zu, Zv]
      refine ⟨Hw2, by simp +contextual, hpw2.cast (by rw [hmT]; simp) (by first | (rw [hmO]; done) | (rw [hmO]; cases bad <;> cases slot <;> simp))⟩
    have e5 : (kind == 5) = false := by simpa using k5
    simp (disch := first | assumption | exact Ne.symm (by assumption) | omega) only [hF3, hact', e0, e1, e2, e3, e4, e5, Int.reduceBEq, ↓ZD, ZU, ZR, Za, Zb, Zc, Zd, Ze, Zf, Zg, Zh, Zi, Zj, Zk, Zl, Zm, Zn, Zo, Zp, Zq, Zr, reduceIte, reduceCtorEq, Zs, Zt, Zu, Zv]
    refine wr_01 (must_wr _ b (s ++ nm) (bad) false) hpw0 hdw0_1 fun Hw1 hpw1 hdw1_0 => ?_
    simp (disch := first | assumption | exact Ne.symm (by assumption) | omega) only [hF3, hact', e0, e1, e2, e3, e4, e5, Int.reduceBEq, ↓ZD, ZU, ZR, Za, Zb, Zc, Zd, Ze, Zf, Zg, Zh, Zi, Zj, Zk, Zl, Zm, Zn, Zo, Zp, Zq, Zr, reduceIte, reduceCtorEq, Zs, Zt, Zu, Zv]
    have hmT : mT = [] := by rw [hmT]; simp [hna, k0, k1, k2, k3, k4, k5]
    have hmO : mO = false := by rw [hmO]; simp [hna, k0, k1, k2, k3, k4, k5]
    refine wr_1 (must_wr _ b (s ++ nm) (bad || !false) true) hpw1 hdw1_0 fun Hw2 hpw2 hdw2_0 => ?_
    simp (disch := first | assumption | exact Ne.symm (by assumption) | omega) only [hF3, hact', e0, e1, e2, e3, e4, e5, Int.reduceBEq, ↓ZD, ZU, ZR, Za, Zb, Zc, Zd, Ze, Zf, Zg, Zh, Zi, Zj, Zk, Zl, Zm, Zn, Zo, Zp, Zq, Zr, reduceIte, reduceCtorEq, Zs, Zt, Zu, Zv]
    refine ⟨Hw2, by simp +contextual, hpw2.cast (by rw [hmT]; simp) (by first | (rw [hmO]; done) | (rw [hmO]; cases bad <;> cases slot <;> simp))⟩
end Go.Proofs.YtoelfmmfjebabaaDoor
