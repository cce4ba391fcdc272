/- Layer 10: policies, told. -/
import Derived.Test.YtoelfmmfjebabaaDoorPnU
namespace Go.Proofs.YtoelfmmfjebabaaDoor
open Go Go.Eng
open Int renaming reduceEq → Za, reduceToNat → Zm, reduceLE → Zn, reduceLT → Zo, reduceAdd → Zp, reduceSub → Zq, reduceNeg → Zr, reducePow → Zt, reduceNegSucc → Zv
open UInt8 renaming reduceOfNat → Zb
open List renaming mapM_cons → Zc, mapM_nil → Zd
open Nat renaming reduceAdd → Ze, reduceMul → Zf, reduceMod → Zg, reduceDiv → Zh, reduceEqDiff → Zi, reduceBEq → Zj, reduceLeDiff → Zk, reduceSub → Zl, reducePow → Zs, reduceLT → Zu
set_option linter.unusedSimpArgs false
set_option linter.unusedVariables false
set_option maxRecDepth 20000

structure Pol where
  id : Str
  permit : Bool
  p : Scp
  a : Scp
  r : Scp
  conds : List (Bool × Ex')
def RepCo (F : Base) (v : Value) (l : List (Bool × Ex')) : Prop := ∃ a c, ∃ g : Nat → List Value, v = .slice a l.length c ∧ l.length ≤ c ∧ l.length ≤ 9223372036854775807 ∧ (∀ (i : Nat) (x : Bool × Ex'), l[i]? = some x → Cl F a 13 i (.bool x.1 :: g i)) ∧ ∀ (i : Nat) (x : Bool × Ex'), l[i]? = some x → RepX F (g i) x.2
theorem RepCo.mono {F F' : Base} {v : Value} {l : List (Bool × Ex')} (h : RepCo F v l) (hF : ∀ b o, F b = some o → F' b = some o) : RepCo F' v l := by
  obtain ⟨a, c, g, h1, h2, h3, h4, h5⟩ := h; exact ⟨a, c, g, h1, h2, h3, fun i x hi => (h4 i x hi).mono hF, fun i x hi => (h5 i x hi).mono hF⟩
def pcells (x : Pol) (vp va vr vc : Value) : List Value := [.string (bs x.id), .bool x.permit] ++ scells x.p vp ++ scells x.a va ++ scells x.r vr ++ [vc]
def RepPol (F : Base) (cs : List Value) (x : Pol) : Prop := ∃ vp va vr vc, cs = pcells x vp va vr vc ∧ (I64 x.p.kind ∧ I64 x.a.kind ∧ I64 x.r.kind) ∧ RepU F vp x.p.list ∧ RepU F va x.a.list ∧ RepU F vr x.r.list ∧ RepCo F vc x.conds
theorem RepPol.mono {F F' : Base} {cs : List Value} {x : Pol} (h : RepPol F cs x) (hF : ∀ b o, F b = some o → F' b = some o) : RepPol F' cs x := by
  obtain ⟨vp, va, vr, vc, h1, h2, h3, h4, h5, h6⟩ := h; exact ⟨vp, va, vr, vc, h1, h2, h3.mono hF, h4.mono hF, h5.mono hF, h6.mono hF⟩
def prN : Str := [112, 114, 105, 110, 99, 105, 112, 97, 108]
def reN : Str := [114, 101, 115, 111, 117, 114, 99, 101]
def polOk (x : Pol) : Bool := scopeOk x.p prN && (scopeOk x.a actN && scopeOk x.r reN)
/-- How much there is of a policy. -/
def wtP (x : Pol) : Nat := x.id.length + wtS x.p + wtS x.a + wtS x.r + (x.conds.map fun c => wt c.2).sum
def headT (x : Pol) : Str := [64, 105, 100, 40] ++ (quote x.id ++ ([41, 32] ++ ((if x.permit then [112, 101, 114, 109, 105, 116, 40] else [102, 111, 114, 98, 105, 100, 40]) ++ (scopeT x.p prN ++ ([44, 32] ++ (scopeT x.a actN ++ ([44, 32] ++ (scopeT x.r reN ++ [41]))))))))
def condT (c : Bool × Ex') : Str := (if c.1 then [32, 119, 104, 101, 110, 32, 123, 32] else [32, 117, 110, 108, 101, 115, 115, 32, 123, 32]) ++ ((ptx c.2).1 ++ [32, 125])
def condsT : List (Bool × Ex') → Str
  | [] => []
  | c :: l => condT c ++ condsT l
/-- The first error. -/
def condsE : List (Bool × Ex') → Int
  | [] => 0
  | c :: l => if (ptx c.2).2 = 0 then condsE l else (ptx c.2).2
def polE (x : Pol) : Int := if polOk x then condsE x.conds else 1
def polTx (x : Pol) : Str := headT x ++ (condsT x.conds ++ [59, 10])
theorem condsT_snoc (c : Bool × Ex') : ∀ l, condsT (l ++ [c]) = condsT l ++ condT c
  | [] => by simp [condsT]
  | x :: l => by rw [List.cons_append, condsT, condsT, condsT_snoc c l, List.append_assoc]
theorem condsT_app : ∀ l m, condsT (l ++ m) = condsT l ++ condsT m
  | [], m => by simp [condsT]
  | x :: l, m => by rw [List.cons_append, condsT, condsT, condsT_app l m, List.append_assoc]
theorem condsT_take (l : List (Bool × Ex')) (i : Nat) : (condsT (l.take i)).length ≤ (condsT l).length := by
  have e : condsT l = condsT (l.take i) ++ condsT (l.drop i) := by rw [← condsT_app, List.take_append_drop]
  rw [e, List.length_append]; omega
theorem condsE_zero : ∀ {l : List (Bool × Ex')}, (∀ c ∈ l, (ptx c.2).2 = 0) → condsE l = 0
  | [], _ => rfl
  | c :: l, h => by rw [condsE, if_pos (h c List.mem_cons_self)]; exact condsE_zero fun c hc => h c (List.mem_cons_of_mem _ hc)
theorem condsE_at : ∀ {l : List (Bool × Ex')} {i : Nat} {c : Bool × Ex'}, l[i]? = some c → (∀ c ∈ l.take i, (ptx c.2).2 = 0) → (ptx c.2).2 ≠ 0 → condsE l = (ptx c.2).2
  | y :: l, 0, c, h, _, hn => by simp only [List.getElem?_cons_zero, Option.some.injEq] at h; subst h; rw [condsE, if_neg hn]
  | y :: l, i + 1, c, h, hz, hn => by
    rw [condsE, if_pos (hz y (by simp))]
    exact condsE_at (l := l) (i := i) (by simpa using h) (fun c hc => hz c (by simp [hc])) hn
theorem ptx_len {F : Base} {cs : List Value} {x : Ex'} (h : RepX F cs x) : (ptx x).1.length ≤ 30 * wt x := by
  have := pt_len h
  unfold ptx
  split
  · simp
  · split <;> simp <;> omega
theorem condT_len {F : Base} {cs : List Value} {c : Bool × Ex'} (h : RepX F cs c.2) : (condT c).length ≤ 30 * wt c.2 + 12 := by
  have := ptx_len h
  unfold condT
  split <;> simp only [List.length_append, List.length_cons, List.length_nil] <;> omega
theorem condsT_len {F : Base} {g : Nat → List Value} : ∀ {l : List (Bool × Ex')}, (∀ c ∈ l, ∃ cs, RepX F cs c.2) → (condsT l).length ≤ 31 * (l.map fun c => wt c.2).sum
  | [], _ => by simp [condsT]
  | c :: l, h => by
    obtain ⟨cs, hc⟩ := h c List.mem_cons_self
    have h1 := condT_len hc
    have h2 := wt_pos c.2
    have h3 := condsT_len (g := g) (l := l) fun c hc => h c (List.mem_cons_of_mem _ hc)
    rw [condsT, List.length_append, List.map_cons, List.sum_cons]; omega
theorem sumC_mem {c : Bool × Ex'} : ∀ {l : List (Bool × Ex')}, c ∈ l → wt c.2 ≤ (l.map fun c => wt c.2).sum
  | y :: l, h => by
    rw [List.map_cons, List.sum_cons]
    rcases List.mem_cons.1 h with rfl | h
    · omega
    · have := sumC_mem h; omega
theorem scopeT_len (x : Scp) (nm : Str) : (scopeT x nm).length ≤ 20 + 2 * nm.length + 8 * wtS x := by
  have := mid_len x nm
  unfold scopeT
  rw [List.length_append]; omega
theorem headT_len (x : Pol) : (headT x).length ≤ 200 + 8 * wtP x := by
  have h1 := scopeT_len x.p prN
  have h2 := scopeT_len x.a actN
  have h3 := scopeT_len x.r reN
  have h4 := quote_len x.id
  have h5 : prN.length = 9 ∧ actN.length = 6 ∧ reN.length = 8 := by decide
  unfold headT wtP
  split <;> simp only [List.length_append, List.length_cons, List.length_nil] <;> omega
set_option maxHeartbeats 4000000 in
theorem policy_does (F : Base) (hM : HasM F) (hS : HasSigns F) (b : Nat) (s : Str) {cs : List Value} {x : Pol} (hx : RepPol F cs x) (hw : wtP x ≤ 1048576) (hl : s.length ≤ 80000000000000) (H0 : Hp) (hp : Pst F b s false H0) :
    Does Tryd.prog F 19 #[.pointer (some ⟨b, 0, none⟩), .agg cs.toArray] H0 (fun r H' => r = .int .i64 (polE x) ∧ (polE x = 0 → Pst F b (s ++ polTx x) false H')) := by
  have hhl := headT_len x
  refine Does.shr (K := fun r H' => r = .int .i64 (polE x) ∧ ∃ Hc, (∀ e ∈ Hc, e ∈ H') ∧ (polE x = 0 → Pst F b (s ++ polTx x) false Hc)) ?_ fun _ _ ⟨h1, Hc, h2, h3⟩ => ⟨Hc, h2, h1, h3⟩
  obtain ⟨vp, va, vr, vc, rfl, ⟨kp, ka, kr⟩, up, ua, ur, uc⟩ := hx
  have sp : RepSc F (scells x.p vp) x.p := ⟨_, rfl, kp, up⟩
  have sa : RepSc F (scells x.a va) x.a := ⟨_, rfl, ka, ua⟩
  have sr : RepSc F (scells x.r vr) x.r := ⟨_, rfl, kr, ur⟩
  obtain ⟨a1, c1, rfl, -⟩ := up
  obtain ⟨a2, c2, rfl, -⟩ := ua
  obtain ⟨a3, c3, rfl, -⟩ := ur
  obtain ⟨ac, cc0, gc, rfl, hcc, hcl, hc1, hc2⟩ := uc
  have hcon := condsT_len (F := F) (g := gc) (l := x.conds) fun c hc => by
    obtain ⟨i, hi⟩ := List.getElem?_of_mem hc
    exact ⟨_, hc2 i c hi⟩
  have hhd : ∀ S, s ++ headT x = S → S.length + (condsT x.conds).length + 2 ≤ 100000000000000 := by
    rintro _ rfl; rw [List.length_append]; unfold wtP at hw hhl; omega
  have hfin : polTx x = headT x ++ (condsT x.conds ++ [59, 10]) := rfl
  have hE : polE x = if polOk x then condsE x.conds else 1 := rfl
  have hO : polOk x = (scopeOk x.p prN && (scopeOk x.a actN && scopeOk x.r reN)) := rfl
  have hH : headT x = [64, 105, 100, 40] ++ (quote x.id ++ ([41, 32] ++ ((if x.permit then [112, 101, 114, 109, 105, 116, 40] else [102, 111, 114, 98, 105, 100, 40]) ++ (scopeT x.p prN ++ ([44, 32] ++ (scopeT x.a actN ++ ([44, 32] ++ (scopeT x.r reN ++ [41])))))))) := rfl
  have hP : wtP x = x.id.length + wtS x.p + wtS x.a + wtS x.r + (x.conds.map fun c => wt c.2).sum := rfl
  rw [hP] at hw hhl
  clear hP
  generalize polE x = E at *
  generalize polTx x = TX at *
  generalize polOk x = OK at *
  generalize headT x = HD at *
  obtain ⟨id, permit, p, a, r, conds⟩ := x
  simp only at hw hhl sp sa sr hcc hcl hc1 hc2 hcon hfin hE hO hH hhd
  have hl1 := scopeT_len p prN
  have hl2 := scopeT_len a actN
  have hl3 := scopeT_len r reN
  have hl4 := quote_len id
  have hl5 : prN.length = 9 ∧ actN.length = 6 ∧ reN.length = 8 := by decide
  refine does_of_svc mixed Tryd.func19 low19 (Nat.le_of_ble_eq_true rfl) (fun w0 hw0 => ?_)
  unfold pcells scells
  unfold scells at sp sa sr
  cases permit with
  | true =>
    simp (disch := first | assumption | exact Ne.symm (by assumption) | omega) only [fu19, Int.reduceBEq, ↓ZD, ZU, ZR, Za, Zb, Zc, Zd, Ze, Zf, Zg, Zh, Zi, Zj, Zk, Zl, Zm, Zn, Zo, Zp, Zq, Zr, reduceIte, reduceCtorEq, Zs, Zt, Zu, Zv]
    refine NewB.of fun b3 hb3 hF3 => ?_
    simp (disch := first | assumption | exact Ne.symm (by assumption) | omega) only [hF3, Int.reduceBEq, ↓ZD, ZU, ZR, Za, Zb, Zc, Zd, Ze, Zf, Zg, Zh, Zi, Zj, Zk, Zl, Zm, Zn, Zo, Zp, Zq, Zr, reduceIte, reduceCtorEq, Zs, Zt, Zu, Zv]
    refine CallE.pure (quote_pure F id (by omega)) ?_
    simp (disch := first | assumption | exact Ne.symm (by assumption) | omega) only [hF3, Int.reduceBEq, ↓ZD, ZU, ZR, Za, Zb, Zc, Zd, Ze, Zf, Zg, Zh, Zi, Zj, Zk, Zl, Zm, Zn, Zo, Zp, Zq, Zr, reduceIte, reduceCtorEq, Zs, Zt, Zu, Zv]
    refine new_1 fun b5 he5_0 hb5 hF5 => ?_
    simp (disch := first | assumption | exact Ne.symm (by assumption) | omega) only [hF3, hF5, Int.reduceBEq, ↓ZD, ZU, ZR, Za, Zb, Zc, Zd, Ze, Zf, Zg, Zh, Zi, Zj, Zk, Zl, Zm, Zn, Zo, Zp, Zq, Zr, reduceIte, reduceCtorEq, Zs, Zt, Zu, Zv]
    refine wr_11 (put3 _ b b5 9 (s) ([64, 105, 100, 40]) ((quote id)) ([41, 32]) _ (by simp [rdObj, hF5, lk]) (by (try simp only [List.length_append, List.length_cons, List.length_nil]); omega)) hp hb5 hb3 fun Hw0 hpw0 hdw0_0 hdw0_1 => ?_
    simp (disch := first | assumption | exact Ne.symm (by assumption) | omega) only [hF3, hF5, Int.reduceBEq, ↓ZD, ZU, ZR, Za, Zb, Zc, Zd, Ze, Zf, Zg, Zh, Zi, Zj, Zk, Zl, Zm, Zn, Zo, Zp, Zq, Zr, reduceIte, reduceCtorEq, Zs, Zt, Zu, Zv]
    refine new_2 fun b6 he6_0 he6_1 hb6 hF6 => ?_
    simp (disch := first | assumption | exact Ne.symm (by assumption) | omega) only [hF3, hF6, Int.reduceBEq, ↓ZD, ZU, ZR, Za, Zb, Zc, Zd, Ze, Zf, Zg, Zh, Zi, Zj, Zk, Zl, Zm, Zn, Zo, Zp, Zq, Zr, reduceIte, reduceCtorEq, Zs, Zt, Zu, Zv]
    refine wr_101 (put1 _ b b6 9 (s ++ ([64, 105, 100, 40] ++ ((quote id) ++ [41, 32]))) ([112, 101, 114, 109, 105, 116, 40]) _ (by simp [rdObj, hF6, lk]) (by (try simp only [List.length_append, List.length_cons, List.length_nil]); omega)) hpw0 hb6 hdw0_1 fun Hw1 hpw1 hdw1_0 hdw1_1 => ?_
    simp (disch := first | assumption | exact Ne.symm (by assumption) | omega) only [hF3, hF6, Int.reduceBEq, ↓ZD, ZU, ZR, Za, Zb, Zc, Zd, Ze, Zf, Zg, Zh, Zi, Zj, Zk, Zl, Zm, Zn, Zo, Zp, Zq, Zr, reduceIte, reduceCtorEq, Zs, Zt, Zu, Zv]
    refine wr_01 (scope_wr _ (hM.mono le_up) b (s ++ ([64, 105, 100, 40] ++ ((quote id) ++ [41, 32])) ++ [112, 101, 114, 109, 105, 116, 40]) (false) (sp.mono le_up) prN (by omega) (by decide) (by (try simp only [List.length_append, List.length_cons, List.length_nil]); omega)) hpw1 hdw1_1 fun Hw2 hpw2 hdw2_0 => ?_
    simp (disch := first | assumption | exact Ne.symm (by assumption) | omega) only [hF3, hF6, Int.reduceBEq, ↓ZD, ZU, ZR, Za, Zb, Zc, Zd, Ze, Zf, Zg, Zh, Zi, Zj, Zk, Zl, Zm, Zn, Zo, Zp, Zq, Zr, reduceIte, reduceCtorEq, Zs, Zt, Zu, Zv]
    refine new_1 fun b7 he7_0 hb7 hF7 => ?_
    simp (disch := first | assumption | exact Ne.symm (by assumption) | omega) only [hF3, hF7, Int.reduceBEq, ↓ZD, ZU, ZR, Za, Zb, Zc, Zd, Ze, Zf, Zg, Zh, Zi, Zj, Zk, Zl, Zm, Zn, Zo, Zp, Zq, Zr, reduceIte, reduceCtorEq, Zs, Zt, Zu, Zv]
    refine wr_11 (put1 _ b b7 9 (s ++ ([64, 105, 100, 40] ++ ((quote id) ++ [41, 32])) ++ [112, 101, 114, 109, 105, 116, 40] ++ scopeT p prN) ([44, 32]) _ (by simp [rdObj, hF7, lk]) (by (try simp only [List.length_append, List.length_cons, List.length_nil]); omega)) hpw2 hb7 hdw2_0 fun Hw3 hpw3 hdw3_0 hdw3_1 => ?_
    simp (disch := first | assumption | exact Ne.symm (by assumption) | omega) only [hF3, hF7, Int.reduceBEq, ↓ZD, ZU, ZR, Za, Zb, Zc, Zd, Ze, Zf, Zg, Zh, Zi, Zj, Zk, Zl, Zm, Zn, Zo, Zp, Zq, Zr, reduceIte, reduceCtorEq, Zs, Zt, Zu, Zv]
    refine wr_01 (scope_wr _ (hM.mono le_up) b (s ++ ([64, 105, 100, 40] ++ ((quote id) ++ [41, 32])) ++ [112, 101, 114, 109, 105, 116, 40] ++ scopeT p prN ++ [44, 32]) (false || !scopeOk p prN) (sa.mono le_up) actN (by omega) (by decide) (by (try simp only [List.length_append, List.length_cons, List.length_nil]); omega)) hpw3 hdw3_1 fun Hw4 hpw4 hdw4_0 => ?_
    simp (disch := first | assumption | exact Ne.symm (by assumption) | omega) only [hF3, hF7, Int.reduceBEq, ↓ZD, ZU, ZR, Za, Zb, Zc, Zd, Ze, Zf, Zg, Zh, Zi, Zj, Zk, Zl, Zm, Zn, Zo, Zp, Zq, Zr, reduceIte, reduceCtorEq, Zs, Zt, Zu, Zv]
    refine new_1 fun b8 he8_0 hb8 hF8 => ?_
    simp (disch := first | assumption | exact Ne.symm (by assumption) | omega) only [hF3, hF8, Int.reduceBEq, ↓ZD, ZU, ZR, Za, Zb, Zc, Zd, Ze, Zf, Zg, Zh, Zi, Zj, Zk, Zl, Zm, Zn, Zo, Zp, Zq, Zr, reduceIte, reduceCtorEq, Zs, Zt, Zu, Zv]
    refine wr_11 (put1 _ b b8 9 (s ++ ([64, 105, 100, 40] ++ ((quote id) ++ [41, 32])) ++ [112, 101, 114, 109, 105, 116, 40] ++ scopeT p prN ++ [44, 32] ++ scopeT a actN) ([44, 32]) _ (by simp [rdObj, hF8, lk]) (by (try simp only [List.length_append, List.length_cons, List.length_nil]); omega)) hpw4 hb8 hdw4_0 fun Hw5 hpw5 hdw5_0 hdw5_1 => ?_
    simp (disch := first | assumption | exact Ne.symm (by assumption) | omega) only [hF3, hF8, Int.reduceBEq, ↓ZD, ZU, ZR, Za, Zb, Zc, Zd, Ze, Zf, Zg, Zh, Zi, Zj, Zk, Zl, Zm, Zn, Zo, Zp, Zq, Zr, reduceIte, reduceCtorEq, Zs, Zt, Zu, Zv]
    refine wr_01 (scope_wr _ (hM.mono le_up) b (s ++ ([64, 105, 100, 40] ++ ((quote id) ++ [41, 32])) ++ [112, 101, 114, 109, 105, 116, 40] ++ scopeT p prN ++ [44, 32] ++ scopeT a actN ++ [44, 32]) (false || !scopeOk p prN || !scopeOk a actN) (sr.mono le_up) reN (by omega) (by decide) (by (try simp only [List.length_append, List.length_cons, List.length_nil]); omega)) hpw5 hdw5_1 fun Hw6 hpw6 hdw6_0 => ?_
    simp (disch := first | assumption | exact Ne.symm (by assumption) | omega) only [hF3, hF8, Int.reduceBEq, ↓ZD, ZU, ZR, Za, Zb, Zc, Zd, Ze, Zf, Zg, Zh, Zi, Zj, Zk, Zl, Zm, Zn, Zo, Zp, Zq, Zr, reduceIte, reduceCtorEq, Zs, Zt, Zu, Zv]
    refine new_1 fun b9 he9_0 hb9 hF9 => ?_
    simp (disch := first | assumption | exact Ne.symm (by assumption) | omega) only [hF3, hF9, Int.reduceBEq, ↓ZD, ZU, ZR, Za, Zb, Zc, Zd, Ze, Zf, Zg, Zh, Zi, Zj, Zk, Zl, Zm, Zn, Zo, Zp, Zq, Zr, reduceIte, reduceCtorEq, Zs, Zt, Zu, Zv]
    refine wr_11 (put1 _ b b9 9 (s ++ ([64, 105, 100, 40] ++ ((quote id) ++ [41, 32])) ++ [112, 101, 114, 109, 105, 116, 40] ++ scopeT p prN ++ [44, 32] ++ scopeT a actN ++ [44, 32] ++ scopeT r reN) ([41]) _ (by simp [rdObj, hF9, lk]) (by (try simp only [List.length_append, List.length_cons, List.length_nil]); omega)) hpw6 hb9 hdw6_0 fun Hw7 hpw7 hdw7_0 hdw7_1 => ?_
    simp (disch := first | assumption | exact Ne.symm (by assumption) | omega) only [hF3, hF9, Int.reduceBEq, ↓ZD, ZU, ZR, Za, Zb, Zc, Zd, Ze, Zf, Zg, Zh, Zi, Zj, Zk, Zl, Zm, Zn, Zo, Zp, Zq, Zr, reduceIte, reduceCtorEq, Zs, Zt, Zu, Zv]
    have hq3 := hpw7.cast (s' := s ++ HD) (bad' := !OK) (by rw [hH]; simp) (by rw [hO]; cases scopeOk p prN <;> cases scopeOk a actN <;> cases scopeOk r reN <;> rfl)
    have hq4 := hq3
    obtain ⟨pp, vv, Ho, hpp, ho, hdo, hFb, rfl⟩ := hq4
    have hbb := hdw7_1 _ List.mem_cons_self
    have hbx := hdw7_0 _ List.mem_cons_self
    simp only at hbb hbx
    have hhd := hhd _ rfl
    cases hOK : OK with
    | false =>
      simp (disch := first | assumption | exact Ne.symm (by assumption) | omega) only [hF3, hFb, hOK, Bool.not_false, Int.reduceBEq, ↓ZD, ZU, ZR, Za, Zb, Zc, Zd, Ze, Zf, Zg, Zh, Zi, Zj, Zk, Zl, Zm, Zn, Zo, Zp, Zq, Zr, reduceIte, reduceCtorEq, Zs, Zt, Zu, Zv]
      have hE1 : E = 1 := by rw [hE, hOK]; rfl
      exact ⟨by rw [hE1], [], by simp, fun h => by rw [hE1] at h; cases h⟩
    | true =>
      rw [hOK] at hq3 hE hdw7_0 hdw7_1
      simp (disch := first | assumption | exact Ne.symm (by assumption) | omega) only [hF3, hFb, hOK, Bool.not_true, Int.reduceBEq, ↓ZD, ZU, ZR, Za, Zb, Zc, Zd, Ze, Zf, Zg, Zh, Zi, Zj, Zk, Zl, Zm, Zn, Zo, Zp, Zq, Zr, reduceIte, reduceCtorEq, Zs, Zt, Zu, Zv]
      refine LoopL.inv (α := Nat × Hp) (fun u => u.1 ≤ conds.length ∧ (∀ c ∈ conds.take u.1, (ptx c.2).2 = 0) ∧ Pst F b (s ++ HD ++ condsT (conds.take u.1)) false u.2)
        (fun u => [(0, some (.pointer (some ⟨b, 0, none⟩))), (49, some (.slice ac conds.length cc0)), (50, some (.int .i64 conds.length)), (51, some (.int .i64 u.1))])
        (fun u => u.2) (fun u => conds.length - u.1) (0, _) ⟨Nat.zero_le _, by simp, by simpa [condsT] using hq3⟩ (by (simp only [Le_nil, Le_cons]; simp (disch := first | assumption | exact Ne.symm (by assumption) | omega) only [↓ZD, ZU, ZR, Za, Zb, Zc, Zd, Ze, Zf, Zg, Zh, Zi, Zj, Zk, Zl, Zm, Zn, Zo, Zp, Zq, Zr, reduceIte, reduceCtorEq, Zs, Zt, Zu, Zv]; try trivial)) ?_ ?_
      · exact HLe_pre2 hq3.lk hdw7_0 hdw7_1
      rintro ⟨i, H⟩ ⟨hi, hz, hpi⟩
      simp only at hi hz hpi ⊢
      by_cases hlt : i < conds.length
      · have hd : decide ((i : Int) < (conds.length : Int)) = true := by simp; omega
        have gx : conds[i]? = some (conds.getD i (false, nilX)) := getDs _ hlt
        generalize conds.getD i (false, nilX) = c at gx
        have hcm := sumC_mem (List.mem_of_getElem? gx)
        have hle := condsT_take conds (i + 1)
        have e9 : condsT (conds.take (i + 1)) = condsT (conds.take i) ++ condT c := by rw [take_snoc gx, condsT_snoc]
        rw [e9, List.length_append] at hle
        have hpx := pexpr_pure hM hS (hc2 i c gx) (by omega)
        obtain ⟨q1, q2, q3, q4, q5, q6, q7, q8, q9, q10, q11, q12, q13, q14, q15, q16, q17, q18, q19, q20, e1⟩ := (hc2 i c gx).form
        obtain ⟨ba, oa, rfl, hla⟩ := (hc1 i c gx).ldn
        rw [e1] at hpx hla
        have hsl : (s ++ HD ++ condsT (conds.take i)).length + (condT c).length ≤ 100000000000000 := by
          rw [List.length_append]; omega
        generalize hS : s ++ HD ++ condsT (conds.take i) = S at hpi hsl
        simp (disch := first | assumption | exact Ne.symm (by assumption) | omega) only [hd, Nat.mul_one, Int.reduceBEq, ↓ZD, ZU, ZR, Za, Zb, Zc, Zd, Ze, Zf, Zg, Zh, Zi, Zj, Zk, Zl, Zm, Zn, Zo, Zp, Zq, Zr, reduceIte, reduceCtorEq, Zs, Zt, Zu, Zv]
        refine conj.of (by omega) ?_
        simp (disch := first | assumption | exact Ne.symm (by assumption) | omega) only [hd, Int.toNat_natCast, ↓hla, Int.reduceBEq, ↓ZD, ZU, ZR, Za, Zb, Zc, Zd, Ze, Zf, Zg, Zh, Zi, Zj, Zk, Zl, Zm, Zn, Zo, Zp, Zq, Zr, reduceIte, reduceCtorEq, Zs, Zt, Zu, Zv]
        refine NewB.of fun b7 hb7 hF7 => ?_
        have hu : ∀ o, upd H b7 o = H := fun o => upd_new hb7
        simp (disch := first | assumption | exact Ne.symm (by assumption) | omega) only [hd, hF7, hu, Int.reduceBEq, ↓ZD, ZU, ZR, Za, Zb, Zc, Zd, Ze, Zf, Zg, Zh, Zi, Zj, Zk, Zl, Zm, Zn, Zo, Zp, Zq, Zr, reduceIte, reduceCtorEq, Zs, Zt, Zu, Zv]
        refine CallE.pure hpx ?_
        by_cases hz0 : (ptx c.2).2 = 0
        · have hnz : ((ptx c.2).2 != 0) = false := by simp [hz0]
          cases hwh : c.1 with
          | true =>
            have ect : condT c = [32, 119, 104, 101, 110, 32, 123, 32] ++ ((ptx c.2).1 ++ [32, 125]) := by unfold condT; rw [hwh]; rfl
            rw [ect] at hsl
            simp only [List.length_append, List.length_cons, List.length_nil] at hsl
            simp (disch := first | assumption | exact Ne.symm (by assumption) | omega) only [hd, hF7, hu, hnz, hwh, Int.reduceBEq, ↓ZD, ZU, ZR, Za, Zb, Zc, Zd, Ze, Zf, Zg, Zh, Zi, Zj, Zk, Zl, Zm, Zn, Zo, Zp, Zq, Zr, reduceIte, reduceCtorEq, Zs, Zt, Zu, Zv]
            refine new_1 fun b10 he10_0 hb10 hF10 => ?_
            simp (disch := first | assumption | exact Ne.symm (by assumption) | omega) only [hd, hF7, hu, hnz, hwh, hF10, Int.reduceBEq, ↓ZD, ZU, ZR, Za, Zb, Zc, Zd, Ze, Zf, Zg, Zh, Zi, Zj, Zk, Zl, Zm, Zn, Zo, Zp, Zq, Zr, reduceIte, reduceCtorEq, Zs, Zt, Zu, Zv]
            refine wr_11 (put3 _ b b10 9 (S) ([32, 119, 104, 101, 110, 32, 123, 32]) ((ptx c.2).1) ([32, 125]) _ (by simp [rdObj, hF10, lk]) (by (try simp only [List.length_append, List.length_cons, List.length_nil]); omega)) hpi hb10 hb7 fun Hw8 hpw8 hdw8_0 hdw8_1 => ?_
            simp (disch := first | assumption | exact Ne.symm (by assumption) | omega) only [hd, hF7, hu, hnz, hwh, hF10, Int.reduceBEq, ↓ZD, ZU, ZR, Za, Zb, Zc, Zd, Ze, Zf, Zg, Zh, Zi, Zj, Zk, Zl, Zm, Zn, Zo, Zp, Zq, Zr, reduceIte, reduceCtorEq, Zs, Zt, Zu, Zv]
            refine invK.on (i + 1, Hw8) ⟨by show i + 1 ≤ _; omega, ?_, hpw8.cast (by rw [e9, ect, ← hS]; simp) rfl⟩ (by show _ - (i + 1) < _ - i; omega) ?_ (HLe_pre2 hpw8.lk hdw8_0 hdw8_1)
            · intro c2 hc2
              rw [take_snoc gx] at hc2
              rcases List.mem_append.1 hc2 with h | h
              · exact hz c2 h
              · rw [List.mem_singleton.1 h]; exact hz0
            · simp only [Le_nil, Le_cons]; simp (disch := first | assumption | exact Ne.symm (by assumption) | omega) only [↓ZD, ZU, ZR, Za, Zb, Zc, Zd, Ze, Zf, Zg, Zh, Zi, Zj, Zk, Zl, Zm, Zn, Zo, Zp, Zq, Zr, reduceIte, reduceCtorEq, Zs, Zt, Zu, Zv]; first | done | trivial | rfl
          | false =>
            have ect : condT c = [32, 117, 110, 108, 101, 115, 115, 32, 123, 32] ++ ((ptx c.2).1 ++ [32, 125]) := by unfold condT; rw [hwh]; rfl
            rw [ect] at hsl
            simp only [List.length_append, List.length_cons, List.length_nil] at hsl
            simp (disch := first | assumption | exact Ne.symm (by assumption) | omega) only [hd, hF7, hu, hnz, hwh, Int.reduceBEq, ↓ZD, ZU, ZR, Za, Zb, Zc, Zd, Ze, Zf, Zg, Zh, Zi, Zj, Zk, Zl, Zm, Zn, Zo, Zp, Zq, Zr, reduceIte, reduceCtorEq, Zs, Zt, Zu, Zv]
            refine new_1 fun b10 he10_0 hb10 hF10 => ?_
            simp (disch := first | assumption | exact Ne.symm (by assumption) | omega) only [hd, hF7, hu, hnz, hwh, hF10, Int.reduceBEq, ↓ZD, ZU, ZR, Za, Zb, Zc, Zd, Ze, Zf, Zg, Zh, Zi, Zj, Zk, Zl, Zm, Zn, Zo, Zp, Zq, Zr, reduceIte, reduceCtorEq, Zs, Zt, Zu, Zv]
            refine wr_11 (put3 _ b b10 9 (S) ([32, 117, 110, 108, 101, 115, 115, 32, 123, 32]) ((ptx c.2).1) ([32, 125]) _ (by simp [rdObj, hF10, lk]) (by (try simp only [List.length_append, List.length_cons, List.length_nil]); omega)) hpi hb10 hb7 fun Hw8 hpw8 hdw8_0 hdw8_1 => ?_
            simp (disch := first | assumption | exact Ne.symm (by assumption) | omega) only [hd, hF7, hu, hnz, hwh, hF10, Int.reduceBEq, ↓ZD, ZU, ZR, Za, Zb, Zc, Zd, Ze, Zf, Zg, Zh, Zi, Zj, Zk, Zl, Zm, Zn, Zo, Zp, Zq, Zr, reduceIte, reduceCtorEq, Zs, Zt, Zu, Zv]
            refine invK.on (i + 1, Hw8) ⟨by show i + 1 ≤ _; omega, ?_, hpw8.cast (by rw [e9, ect, ← hS]; simp) rfl⟩ (by show _ - (i + 1) < _ - i; omega) ?_ (HLe_pre2 hpw8.lk hdw8_0 hdw8_1)
            · intro c2 hc2
              rw [take_snoc gx] at hc2
              rcases List.mem_append.1 hc2 with h | h
              · exact hz c2 h
              · rw [List.mem_singleton.1 h]; exact hz0
            · simp only [Le_nil, Le_cons]; simp (disch := first | assumption | exact Ne.symm (by assumption) | omega) only [↓ZD, ZU, ZR, Za, Zb, Zc, Zd, Ze, Zf, Zg, Zh, Zi, Zj, Zk, Zl, Zm, Zn, Zo, Zp, Zq, Zr, reduceIte, reduceCtorEq, Zs, Zt, Zu, Zv]; first | done | trivial | rfl
        · have hnz : ((ptx c.2).2 != 0) = true := by simp [hz0]
          simp (disch := first | assumption | exact Ne.symm (by assumption) | omega) only [hd, hF7, hu, hnz, Int.reduceBEq, ↓ZD, ZU, ZR, Za, Zb, Zc, Zd, Ze, Zf, Zg, Zh, Zi, Zj, Zk, Zl, Zm, Zn, Zo, Zp, Zq, Zr, reduceIte, reduceCtorEq, Zs, Zt, Zu, Zv]
          have hE1 : E = (ptx c.2).2 := by rw [hE, if_pos rfl]; exact condsE_at gx hz hz0
          exact ⟨by rw [hE1], [], by simp, fun h => absurd (hE1.symm.trans h) hz0⟩
      · have hd : decide ((i : Int) < (conds.length : Int)) = false := by simp; omega
        obtain rfl : i = conds.length := by omega
        rw [List.take_length] at hpi hz
        simp (disch := first | assumption | exact Ne.symm (by assumption) | omega) only [hd, Int.reduceBEq, ↓ZD, ZU, ZR, Za, Zb, Zc, Zd, Ze, Zf, Zg, Zh, Zi, Zj, Zk, Zl, Zm, Zn, Zo, Zp, Zq, Zr, reduceIte, reduceCtorEq, Zs, Zt, Zu, Zv]
        refine NewB.of fun b10 hb10 hF10 => ?_
        simp (disch := first | assumption | exact Ne.symm (by assumption) | omega) only [hd, hF10, Int.reduceBEq, ↓ZD, ZU, ZR, Za, Zb, Zc, Zd, Ze, Zf, Zg, Zh, Zi, Zj, Zk, Zl, Zm, Zn, Zo, Zp, Zq, Zr, reduceIte, reduceCtorEq, Zs, Zt, Zu, Zv]
        refine wr_1 (put1 _ b b10 9 ((s ++ HD ++ condsT conds)) ([59, 10]) _ (by simp [rdObj, hF10, lk]) (by (try simp only [List.length_append, List.length_cons, List.length_nil]); omega)) hpi hb10 fun Hw8 hpw8 hdw8_0 => ?_
        simp (disch := first | assumption | exact Ne.symm (by assumption) | omega) only [hd, hF10, Int.reduceBEq, ↓ZD, ZU, ZR, Za, Zb, Zc, Zd, Ze, Zf, Zg, Zh, Zi, Zj, Zk, Zl, Zm, Zn, Zo, Zp, Zq, Zr, reduceIte, reduceCtorEq, Zs, Zt, Zu, Zv]
        have hE1 : E = 0 := by rw [hE, if_pos rfl]; exact condsE_zero hz
        exact ⟨by rw [hE1], Hw8, by simp +contextual, fun _ => hpw8.cast (by rw [hfin]; simp) rfl⟩
  | false =>
    simp (disch := first | assumption | exact Ne.symm (by assumption) | omega) only [fu19, Int.reduceBEq, ↓ZD, ZU, ZR, Za, Zb, Zc, Zd, Ze, Zf, Zg, Zh, Zi, Zj, Zk, Zl, Zm, Zn, Zo, Zp, Zq, Zr, reduceIte, reduceCtorEq, Zs, Zt, Zu, Zv]
    refine NewB.of fun b3 hb3 hF3 => ?_
    simp (disch := first | assumption | exact Ne.symm (by assumption) | omega) only [hF3, Int.reduceBEq, ↓ZD, ZU, ZR, Za, Zb, Zc, Zd, Ze, Zf, Zg, Zh, Zi, Zj, Zk, Zl, Zm, Zn, Zo, Zp, Zq, Zr, reduceIte, reduceCtorEq, Zs, Zt, Zu, Zv]
    refine CallE.pure (quote_pure F id (by omega)) ?_
    simp (disch := first | assumption | exact Ne.symm (by assumption) | omega) only [hF3, Int.reduceBEq, ↓ZD, ZU, ZR, Za, Zb, Zc, Zd, Ze, Zf, Zg, Zh, Zi, Zj, Zk, Zl, Zm, Zn, Zo, Zp, Zq, Zr, reduceIte, reduceCtorEq, Zs, Zt, Zu, Zv]
    refine new_1 fun b5 he5_0 hb5 hF5 => ?_
    simp (disch := first | assumption | exact Ne.symm (by assumption) | omega) only [hF3, hF5, Int.reduceBEq, ↓ZD, ZU, ZR, Za, Zb, Zc, Zd, Ze, Zf, Zg, Zh, Zi, Zj, Zk, Zl, Zm, Zn, Zo, Zp, Zq, Zr, reduceIte, reduceCtorEq, Zs, Zt, Zu, Zv]
    refine wr_11 (put3 _ b b5 9 (s) ([64, 105, 100, 40]) ((quote id)) ([41, 32]) _ (by simp [rdObj, hF5, lk]) (by (try simp only [List.length_append, List.length_cons, List.length_nil]); omega)) hp hb5 hb3 fun Hw0 hpw0 hdw0_0 hdw0_1 => ?_
    simp (disch := first | assumption | exact Ne.symm (by assumption) | omega) only [hF3, hF5, Int.reduceBEq, ↓ZD, ZU, ZR, Za, Zb, Zc, Zd, Ze, Zf, Zg, Zh, Zi, Zj, Zk, Zl, Zm, Zn, Zo, Zp, Zq, Zr, reduceIte, reduceCtorEq, Zs, Zt, Zu, Zv]
    refine new_2 fun b6 he6_0 he6_1 hb6 hF6 => ?_
    simp (disch := first | assumption | exact Ne.symm (by assumption) | omega) only [hF3, hF6, Int.reduceBEq, ↓ZD, ZU, ZR, Za, Zb, Zc, Zd, Ze, Zf, Zg, Zh, Zi, Zj, Zk, Zl, Zm, Zn, Zo, Zp, Zq, Zr, reduceIte, reduceCtorEq, Zs, Zt, Zu, Zv]
    refine wr_101 (put1 _ b b6 9 (s ++ ([64, 105, 100, 40] ++ ((quote id) ++ [41, 32]))) ([102, 111, 114, 98, 105, 100, 40]) _ (by simp [rdObj, hF6, lk]) (by (try simp only [List.length_append, List.length_cons, List.length_nil]); omega)) hpw0 hb6 hdw0_1 fun Hw1 hpw1 hdw1_0 hdw1_1 => ?_
    simp (disch := first | assumption | exact Ne.symm (by assumption) | omega) only [hF3, hF6, Int.reduceBEq, ↓ZD, ZU, ZR, Za, Zb, Zc, Zd, Ze, Zf, Zg, Zh, Zi, Zj, Zk, Zl, Zm, Zn, Zo, Zp, Zq, Zr, reduceIte, reduceCtorEq, Zs, Zt, Zu, Zv]
    refine wr_01 (scope_wr _ (hM.mono le_up) b (s ++ ([64, 105, 100, 40] ++ ((quote id) ++ [41, 32])) ++ [102, 111, 114, 98, 105, 100, 40]) (false) (sp.mono le_up) prN (by omega) (by decide) (by (try simp only [List.length_append, List.length_cons, List.length_nil]); omega)) hpw1 hdw1_1 fun Hw2 hpw2 hdw2_0 => ?_
    simp (disch := first | assumption | exact Ne.symm (by assumption) | omega) only [hF3, hF6, Int.reduceBEq, ↓ZD, ZU, ZR, Za, Zb, Zc, Zd, Ze, Zf, Zg, Zh, Zi, Zj, Zk, Zl, Zm, Zn, Zo, Zp, Zq, Zr, reduceIte, reduceCtorEq, Zs, Zt, Zu, Zv]
    refine new_1 fun b7 he7_0 hb7 hF7 => ?_
    simp (disch := first | assumption | exact Ne.symm (by assumption) | omega) only [hF3, hF7, Int.reduceBEq, ↓ZD, ZU, ZR, Za, Zb, Zc, Zd, Ze, Zf, Zg, Zh, Zi, Zj, Zk, Zl, Zm, Zn, Zo, Zp, Zq, Zr, reduceIte, reduceCtorEq, Zs, Zt, Zu, Zv]
    refine wr_11 (put1 _ b b7 9 (s ++ ([64, 105, 100, 40] ++ ((quote id) ++ [41, 32])) ++ [102, 111, 114, 98, 105, 100, 40] ++ scopeT p prN) ([44, 32]) _ (by simp [rdObj, hF7, lk]) (by (try simp only [List.length_append, List.length_cons, List.length_nil]); omega)) hpw2 hb7 hdw2_0 fun Hw3 hpw3 hdw3_0 hdw3_1 => ?_
    simp (disch := first | assumption | exact Ne.symm (by assumption) | omega) only [hF3, hF7, Int.reduceBEq, ↓ZD, ZU, ZR, Za, Zb, Zc, Zd, Ze, Zf, Zg, Zh, Zi, Zj, Zk, Zl, Zm, Zn, Zo, Zp, Zq, Zr, reduceIte, reduceCtorEq, Zs, Zt, Zu, Zv]
    refine wr_01 (scope_wr _ (hM.mono le_up) b (s ++ ([64, 105, 100, 40] ++ ((quote id) ++ [41, 32])) ++ [102, 111, 114, 98, 105, 100, 40] ++ scopeT p prN ++ [44, 32]) (false || !scopeOk p prN) (sa.mono le_up) actN (by omega) (by decide) (by (try simp only [List.length_append, List.length_cons, List.length_nil]); omega)) hpw3 hdw3_1 fun Hw4 hpw4 hdw4_0 => ?_
    simp (disch := first | assumption | exact Ne.symm (by assumption) | omega) only [hF3, hF7, Int.reduceBEq, ↓ZD, ZU, ZR, Za, Zb, Zc, Zd, Ze, Zf, Zg, Zh, Zi, Zj, Zk, Zl, Zm, Zn, Zo, Zp, Zq, Zr, reduceIte, reduceCtorEq, Zs, Zt, Zu, Zv]
    refine new_1 fun b8 he8_0 hb8 hF8 => ?_
    simp (disch := first | assumption | exact Ne.symm (by assumption) | omega) only [hF3, hF8, Int.reduceBEq, ↓ZD, ZU, ZR, Za, Zb, Zc, Zd, Ze, Zf, Zg, Zh, Zi, Zj, Zk, Zl, Zm, Zn, Zo, Zp, Zq, Zr, reduceIte, reduceCtorEq, Zs, Zt, Zu, Zv]
    refine wr_11 (put1 _ b b8 9 (s ++ ([64, 105, 100, 40] ++ ((quote id) ++ [41, 32])) ++ [102, 111, 114, 98, 105, 100, 40] ++ scopeT p prN ++ [44, 32] ++ scopeT a actN) ([44, 32]) _ (by simp [rdObj, hF8, lk]) (by (try simp only [List.length_append, List.length_cons, List.length_nil]); omega)) hpw4 hb8 hdw4_0 fun Hw5 hpw5 hdw5_0 hdw5_1 => ?_
    simp (disch := first | assumption | exact Ne.symm (by assumption) | omega) only [hF3, hF8, Int.reduceBEq, ↓ZD, ZU, ZR, Za, Zb, Zc, Zd, Ze, Zf, Zg, Zh, Zi, Zj, Zk, Zl, Zm, Zn, Zo, Zp, Zq, Zr, reduceIte, reduceCtorEq, Zs, Zt, Zu, Zv]
    refine wr_01 (scope_wr _ (hM.mono le_up) b (s ++ ([64, 105, 100, 40] ++ ((quote id) ++ [41, 32])) ++ [102, 111, 114, 98, 105, 100, 40] ++ scopeT p prN ++ [44, 32] ++ scopeT a actN ++ [44, 32]) (false || !scopeOk p prN || !scopeOk a actN) (sr.mono le_up) reN (by omega) (by decide) (by (try simp only [List.length_append, List.length_cons, List.length_nil]); omega)) hpw5 hdw5_1 fun Hw6 hpw6 hdw6_0 => ?_
    simp (disch := first | assumption | exact Ne.symm (by assumption) | omega) only [hF3, hF8, Int.reduceBEq, ↓ZD, ZU, ZR, Za, Zb, Zc, Zd, Ze, Zf, Zg, Zh, Zi, Zj, Zk, Zl, Zm, Zn, Zo, Zp, Zq, Zr, reduceIte, reduceCtorEq, Zs, Zt, Zu, Zv]
    refine new_1 fun b9 he9_0 hb9 hF9 => ?_
    simp (disch := first | assumption | exact Ne.symm (by assumption) | omega) only [hF3, hF9, Int.reduceBEq, ↓ZD, ZU, ZR, Za, Zb, Zc, Zd, Ze, Zf, Zg, Zh, Zi, Zj, Zk, Zl, Zm, Zn, Zo, Zp, Zq, Zr, reduceIte, reduceCtorEq, Zs, Zt, Zu, Zv]
    refine wr_11 (put1 _ b b9 9 (s ++ ([64, 105, 100, 40] ++ ((quote id) ++ [41, 32])) ++ [102, 111, 114, 98, 105, 100, 40] ++ scopeT p prN ++ [44, 32] ++ scopeT a actN ++ [44, 32] ++ scopeT r reN) ([41]) _ (by simp [rdObj, hF9, lk]) (by (try simp only [List.length_append, List.length_cons, List.length_nil]); omega)) hpw6 hb9 hdw6_0 fun Hw7 hpw7 hdw7_0 hdw7_1 => ?_
    simp (disch := first | assumption | exact Ne.symm (by assumption) | omega) only [hF3, hF9, Int.reduceBEq, ↓ZD, ZU, ZR, Za, Zb, Zc, Zd, Ze, Zf, Zg, Zh, Zi, Zj, Zk, Zl, Zm, Zn, Zo, Zp, Zq, Zr, reduceIte, reduceCtorEq, Zs, Zt, Zu, Zv]
    have hq3 := hpw7.cast (s' := s ++ HD) (bad' := !OK) (by rw [hH]; simp) (by rw [hO]; cases scopeOk p prN <;> cases scopeOk a actN <;> cases scopeOk r reN <;> rfl)
    have hq4 := hq3
    obtain ⟨pp, vv, Ho, hpp, ho, hdo, hFb, rfl⟩ := hq4
    have hbb := hdw7_1 _ List.mem_cons_self
    have hbx := hdw7_0 _ List.mem_cons_self
    simp only at hbb hbx
    have hhd := hhd _ rfl
    cases hOK : OK with
    | false =>
      simp (disch := first | assumption | exact Ne.symm (by assumption) | omega) only [hF3, hFb, hOK, Bool.not_false, Int.reduceBEq, ↓ZD, ZU, ZR, Za, Zb, Zc, Zd, Ze, Zf, Zg, Zh, Zi, Zj, Zk, Zl, Zm, Zn, Zo, Zp, Zq, Zr, reduceIte, reduceCtorEq, Zs, Zt, Zu, Zv]
      have hE1 : E = 1 := by rw [hE, hOK]; rfl
      exact ⟨by rw [hE1], [], by simp, fun h => by rw [hE1] at h; cases h⟩
    | true =>
      rw [hOK] at hq3 hE hdw7_0 hdw7_1
      simp (disch := first | assumption | exact Ne.symm (by assumption) | omega) only [hF3, hFb, hOK, Bool.not_true, Int.reduceBEq, ↓ZD, ZU, ZR, Za, Zb, Zc, Zd, Ze, Zf, Zg, Zh, Zi, Zj, Zk, Zl, Zm, Zn, Zo, Zp, Zq, Zr, reduceIte, reduceCtorEq, Zs, Zt, Zu, Zv]
      refine LoopL.inv (α := Nat × Hp) (fun u => u.1 ≤ conds.length ∧ (∀ c ∈ conds.take u.1, (ptx c.2).2 = 0) ∧ Pst F b (s ++ HD ++ condsT (conds.take u.1)) false u.2)
        (fun u => [(0, some (.pointer (some ⟨b, 0, none⟩))), (49, some (.slice ac conds.length cc0)), (50, some (.int .i64 conds.length)), (51, some (.int .i64 u.1))])
        (fun u => u.2) (fun u => conds.length - u.1) (0, _) ⟨Nat.zero_le _, by simp, by simpa [condsT] using hq3⟩ (by (simp only [Le_nil, Le_cons]; simp (disch := first | assumption | exact Ne.symm (by assumption) | omega) only [↓ZD, ZU, ZR, Za, Zb, Zc, Zd, Ze, Zf, Zg, Zh, Zi, Zj, Zk, Zl, Zm, Zn, Zo, Zp, Zq, Zr, reduceIte, reduceCtorEq, Zs, Zt, Zu, Zv]; try trivial)) ?_ ?_
      · exact HLe_pre2 hq3.lk hdw7_0 hdw7_1
      rintro ⟨i, H⟩ ⟨hi, hz, hpi⟩
      simp only at hi hz hpi ⊢
      by_cases hlt : i < conds.length
      · have hd : decide ((i : Int) < (conds.length : Int)) = true := by simp; omega
        have gx : conds[i]? = some (conds.getD i (false, nilX)) := getDs _ hlt
        generalize conds.getD i (false, nilX) = c at gx
        have hcm := sumC_mem (List.mem_of_getElem? gx)
        have hle := condsT_take conds (i + 1)
        have e9 : condsT (conds.take (i + 1)) = condsT (conds.take i) ++ condT c := by rw [take_snoc gx, condsT_snoc]
        rw [e9, List.length_append] at hle
        have hpx := pexpr_pure hM hS (hc2 i c gx) (by omega)
        obtain ⟨q1, q2, q3, q4, q5, q6, q7, q8, q9, q10, q11, q12, q13, q14, q15, q16, q17, q18, q19, q20, e1⟩ := (hc2 i c gx).form
        obtain ⟨ba, oa, rfl, hla⟩ := (hc1 i c gx).ldn
        rw [e1] at hpx hla
        have hsl : (s ++ HD ++ condsT (conds.take i)).length + (condT c).length ≤ 100000000000000 := by
          rw [List.length_append]; omega
        generalize hS : s ++ HD ++ condsT (conds.take i) = S at hpi hsl
        simp (disch := first | assumption | exact Ne.symm (by assumption) | omega) only [hd, Nat.mul_one, Int.reduceBEq, ↓ZD, ZU, ZR, Za, Zb, Zc, Zd, Ze, Zf, Zg, Zh, Zi, Zj, Zk, Zl, Zm, Zn, Zo, Zp, Zq, Zr, reduceIte, reduceCtorEq, Zs, Zt, Zu, Zv]
        refine conj.of (by omega) ?_
        simp (disch := first | assumption | exact Ne.symm (by assumption) | omega) only [hd, Int.toNat_natCast, ↓hla, Int.reduceBEq, ↓ZD, ZU, ZR, Za, Zb, Zc, Zd, Ze, Zf, Zg, Zh, Zi, Zj, Zk, Zl, Zm, Zn, Zo, Zp, Zq, Zr, reduceIte, reduceCtorEq, Zs, Zt, Zu, Zv]
        refine NewB.of fun b7 hb7 hF7 => ?_
        have hu : ∀ o, upd H b7 o = H := fun o => upd_new hb7
        simp (disch := first | assumption | exact Ne.symm (by assumption) | omega) only [hd, hF7, hu, Int.reduceBEq, ↓ZD, ZU, ZR, Za, Zb, Zc, Zd, Ze, Zf, Zg, Zh, Zi, Zj, Zk, Zl, Zm, Zn, Zo, Zp, Zq, Zr, reduceIte, reduceCtorEq, Zs, Zt, Zu, Zv]
        refine CallE.pure hpx ?_
        by_cases hz0 : (ptx c.2).2 = 0
        · have hnz : ((ptx c.2).2 != 0) = false := by simp [hz0]
          cases hwh : c.1 with
          | true =>
            have ect : condT c = [32, 119, 104, 101, 110, 32, 123, 32] ++ ((ptx c.2).1 ++ [32, 125]) := by unfold condT; rw [hwh]; rfl
            rw [ect] at hsl
            simp only [List.length_append, List.length_cons, List.length_nil] at hsl
            simp (disch := first | assumption | exact Ne.symm (by assumption) | omega) only [hd, hF7, hu, hnz, hwh, Int.reduceBEq, ↓ZD, ZU, ZR, Za, Zb, Zc, Zd, Ze, Zf, Zg, Zh, Zi, Zj, Zk, Zl, Zm, Zn, Zo, Zp, Zq, Zr, reduceIte, reduceCtorEq, Zs, Zt, Zu, Zv]
            refine new_1 fun b10 he10_0 hb10 hF10 => ?_
            simp (disch := first | assumption | exact Ne.symm (by assumption) | omega) only [hd, hF7, hu, hnz, hwh, hF10, Int.reduceBEq, ↓ZD, ZU, ZR, Za, Zb, Zc, Zd, Ze, Zf, Zg, Zh, Zi, Zj, Zk, Zl, Zm, Zn, Zo, Zp, Zq, Zr, reduceIte, reduceCtorEq, Zs, Zt, Zu, Zv]
            refine wr_11 (put3 _ b b10 9 (S) ([32, 119, 104, 101, 110, 32, 123, 32]) ((ptx c.2).1) ([32, 125]) _ (by simp [rdObj, hF10, lk]) (by (try simp only [List.length_append, List.length_cons, List.length_nil]); omega)) hpi hb10 hb7 fun Hw8 hpw8 hdw8_0 hdw8_1 => ?_
            simp (disch := first | assumption | exact Ne.symm (by assumption) | omega) only [hd, hF7, hu, hnz, hwh, hF10, Int.reduceBEq, ↓ZD, ZU, ZR, Za, Zb, Zc, Zd, Ze, Zf, Zg, Zh, Zi, Zj, Zk, Zl, Zm, Zn, Zo, Zp, Zq, Zr, reduceIte, reduceCtorEq, Zs, Zt, Zu, Zv]
            refine invK.on (i + 1, Hw8) ⟨by show i + 1 ≤ _; omega, ?_, hpw8.cast (by rw [e9, ect, ← hS]; simp) rfl⟩ (by show _ - (i + 1) < _ - i; omega) ?_ (HLe_pre2 hpw8.lk hdw8_0 hdw8_1)
            · intro c2 hc2
              rw [take_snoc gx] at hc2
              rcases List.mem_append.1 hc2 with h | h
              · exact hz c2 h
              · rw [List.mem_singleton.1 h]; exact hz0
            · simp only [Le_nil, Le_cons]; simp (disch := first | assumption | exact Ne.symm (by assumption) | omega) only [↓ZD, ZU, ZR, Za, Zb, Zc, Zd, Ze, Zf, Zg, Zh, Zi, Zj, Zk, Zl, Zm, Zn, Zo, Zp, Zq, Zr, reduceIte, reduceCtorEq, Zs, Zt, Zu, Zv]; first | done | trivial | rfl
          | false =>
            have ect : condT c = [32, 117, 110, 108, 101, 115, 115, 32, 123, 32] ++ ((ptx c.2).1 ++ [32, 125]) := by unfold condT; rw [hwh]; rfl
            rw [ect] at hsl
            simp only [List.length_append, List.length_cons, List.length_nil] at hsl
            simp (disch := first | assumption | exact Ne.symm (by assumption) | omega) only [hd, hF7, hu, hnz, hwh, Int.reduceBEq, ↓ZD, ZU, ZR, Za, Zb, Zc, Zd, Ze, Zf, Zg, Zh, Zi, Zj, Zk, Zl, Zm, Zn, Zo, Zp, Zq, Zr, reduceIte, reduceCtorEq, Zs, Zt, Zu, Zv]
            refine new_1 fun b10 he10_0 hb10 hF10 => ?_
            simp (disch := first | assumption | exact Ne.symm (by assumption) | omega) only [hd, hF7, hu, hnz, hwh, hF10, Int.reduceBEq, ↓ZD, ZU, ZR, Za, Zb, Zc, Zd, Ze, Zf, Zg, Zh, Zi, Zj, Zk, Zl, Zm, Zn, Zo, Zp, Zq, Zr, reduceIte, reduceCtorEq, Zs, Zt, Zu, Zv]
            refine wr_11 (put3 _ b b10 9 (S) ([32, 117, 110, 108, 101, 115, 115, 32, 123, 32]) ((ptx c.2).1) ([32, 125]) _ (by simp [rdObj, hF10, lk]) (by (try simp only [List.length_append, List.length_cons, List.length_nil]); omega)) hpi hb10 hb7 fun Hw8 hpw8 hdw8_0 hdw8_1 => ?_
            simp (disch := first | assumption | exact Ne.symm (by assumption) | omega) only [hd, hF7, hu, hnz, hwh, hF10, Int.reduceBEq, ↓ZD, ZU, ZR, Za, Zb, Zc, Zd, Ze, Zf, Zg, Zh, Zi, Zj, Zk, Zl, Zm, Zn, Zo, Zp, Zq, Zr, reduceIte, reduceCtorEq, Zs, Zt, Zu, Zv]
            refine invK.on (i + 1, Hw8) ⟨by show i + 1 ≤ _; omega, ?_, hpw8.cast (by rw [e9, ect, ← hS]; simp) rfl⟩ (by show _ - (i + 1) < _ - i; omega) ?_ (HLe_pre2 hpw8.lk hdw8_0 hdw8_1)
            · intro c2 hc2
              rw [take_snoc gx] at hc2
              rcases List.mem_append.1 hc2 with h | h
              · exact hz c2 h
              · rw [List.mem_singleton.1 h]; exact hz0
            · simp only [Le_nil, Le_cons]; simp (disch := first | assumption | exact Ne.symm (by assumption) | omega) only [↓ZD, ZU, ZR, Za, Zb, Zc, Zd, Ze, Zf, Zg, Zh, Zi, Zj, Zk, Zl, Zm, Zn, Zo, Zp, Zq, Zr, reduceIte, reduceCtorEq, Zs, Zt, Zu, Zv]; first | done | trivial | rfl
        · have hnz : ((ptx c.2).2 != 0) = true := by simp [hz0]
          simp (disch := first | assumption | exact Ne.symm (by assumption) | omega) only [hd, hF7, hu, hnz, Int.reduceBEq, ↓ZD, ZU, ZR, Za, Zb, Zc, Zd, Ze, Zf, Zg, Zh, Zi, Zj, Zk, Zl, Zm, Zn, Zo, Zp, Zq, Zr, reduceIte, reduceCtorEq, Zs, Zt, Zu, Zv]
          have hE1 : E = (ptx c.2).2 := by rw [hE, if_pos rfl]; exact condsE_at gx hz hz0
          exact ⟨by rw [hE1], [], by simp, fun h => absurd (hE1.symm.trans h) hz0⟩
      · have hd : decide ((i : Int) < (conds.length : Int)) = false := by simp; omega
        obtain rfl : i = conds.length := by omega
        rw [List.take_length] at hpi hz
        simp (disch := first | assumption | exact Ne.symm (by assumption) | omega) only [hd, Int.reduceBEq, ↓ZD, ZU, ZR, Za, Zb, Zc, Zd, Ze, Zf, Zg, Zh, Zi, Zj, Zk, Zl, Zm, Zn, Zo, Zp, Zq, Zr, reduceIte, reduceCtorEq, Zs, Zt, Zu, Zv]
        refine NewB.of fun b10 hb10 hF10 => ?_
        simp (disch := first | assumption | exact Ne.symm (by assumption) | omega) only [hd, hF10, Int.reduceBEq, ↓ZD, ZU, ZR, Za, Zb, Zc, Zd, Ze, Zf, Zg, Zh, Zi, Zj, Zk, Zl, Zm, Zn, Zo, Zp, Zq, Zr, reduceIte, reduceCtorEq, Zs, Zt, Zu, Zv]
        refine wr_1 (put1 _ b b10 9 ((s ++ HD ++ condsT conds)) ([59, 10]) _ (by simp [rdObj, hF10, lk]) (by (try simp only [List.length_append, List.length_cons, List.length_nil]); omega)) hpi hb10 fun Hw8 hpw8 hdw8_0 => ?_
        simp (disch := first | assumption | exact Ne.symm (by assumption) | omega) only [hd, hF10, Int.reduceBEq, ↓ZD, ZU, ZR, Za, Zb, Zc, Zd, Ze, Zf, Zg, Zh, Zi, Zj, Zk, Zl, Zm, Zn, Zo, Zp, Zq, Zr, reduceIte, reduceCtorEq, Zs, Zt, Zu, Zv]
        have hE1 : E = 0 := by rw [hE, if_pos rfl]; exact condsE_zero hz
        exact ⟨by rw [hE1], Hw8, by simp +contextual, fun _ => hpw8.cast (by rw [hfin]; simp) rfl⟩
end Go.Proofs.YtoelfmmfjebabaaDoor
