/- Layer 11: being the same. -/
import Derived.Test.YtdljgcicncegkaaB
namespace Go.Proofs.Ytdljgcicncegkaa
open Go Go.Eng
open Int renaming reduceEq → Zaa, cast_ofNat_Int → Zac, reduceToNat → Zbu, toNat_zero → Zbv, toNat_one → Zbw, reduceLE → Zbx, reduceLT → Zby, reduceAdd → Zbz, reduceSub → Zb0, reduceNeg → Zb1, zero_add → Zb2, reducePow → Zcg, reduceNegSucc → Zci
open UInt8 renaming reduceOfNat → Zab
open List renaming toList_toArray → Zad, length_append → Zag, cons_append → Zav, nil_append → Zaw, length_cons → Zax, length_nil → Zay, drop_zero → Zaz, drop_succ_cons → Za0, take_succ_cons → Za1, take_zero → Za2, drop_nil → Za3, take_nil → Za4, append_nil → Za5, all_cons → Za6, all_nil → Za7, isEmpty_cons → Za8, size_toArray → Za9, getElem?_toArray → Zba, getElem?_cons_zero → Zbb, getElem?_cons_succ → Zbc, getD_cons_zero → Zbd, getD_cons_succ → Zbe, mapM_cons → Zbf, mapM_nil → Zbg
open Option renaming getD_some → Zae, getD_none → Zaf, map_some → Zar, map_none → Zas, bind_some → Zat, bind_none → Zau
open Nat renaming le_add_right → Zah, reduceAdd → Zbi, reduceMul → Zbj, reduceMod → Zbk, reduceDiv → Zbl, reduceEqDiff → Zbm, reduceBEq → Zbn, reduceLeDiff → Zbo, reduceSub → Zbp, zero_add → Zbq, add_zero → Zbr, le_refl → Zbs, zero_le → Zbt, reducePow → Zcf, reduceLT → Zch
open Go.Eng renaming subG → Zai, lit → Zaj, isPar → Zak, numb → Zal, Wf → Zam, resV → Zan, oneCell → Zao, isB → Zap, asB → Zaq
open Go.Value renaming cells → Zbh
open Bool renaming and_true → Zb3, true_and → Zb4, and_self → Zb5, not_true → Zb6, not_false → Zb7, and_false → Zb8, or_false → Zb9, or_true → Zca, true_or → Zcb, false_or → Zcc, false_and → Zcd, false_eq_true → Zce
set_option linter.unusedSimpArgs false
set_option linter.unusedVariables false
set_option maxRecDepth 20000

def nilT : Ty := .mk 0 [] [] []
def nilA : At := ([], nilT, false)
def all2 {α : Type} (p : α → α → Bool) : List α → List α → Bool
  | [], [] => true
  | x :: l, y :: m => p x y && all2 p l m
  | _, _ => false
theorem all2_range {α : Type} (p : α → α → Bool) (d : α) : ∀ l m : List α, all2 p l m = (l.length == m.length && (List.range l.length).all fun i => p (l.getD i d) (m.getD i d))
  | [], [] => rfl
  | [], y :: m => by simp [all2]
  | x :: l, [] => by simp [all2]
  | x :: l, y :: m => by
    rw [all2, all2_range p d l m, List.length_cons, List.length_cons, List.range_succ_eq_map, List.all_cons, List.all_map]
    have : (l.length + 1 == m.length + 1) = (l.length == m.length) := by apply Bool.eq_iff_iff.mpr; simp
    rw [this]
    simp only [List.getD_cons_zero]
    cases p x y <;> cases (l.length == m.length) <;> simp [Function.comp_def]
mutual
def same : Ty → Ty → Bool
  | .mk k n es ats, .mk k' n' es' ats' => k == k' && (if k = 6 then n == n' else if k = 7 then sameL es es' else if k = 8 then sameA ats ats' else true)
def sameL : List Ty → List Ty → Bool
  | [], [] => true
  | x :: l, y :: m => same x y && sameL l m
  | _, _ => false
def sameA : List (List UInt8 × Ty × Bool) → List (List UInt8 × Ty × Bool) → Bool
  | [], [] => true
  | (n, t, o) :: l, (n', t', o') :: m => (n == n' && (o == o' && same t t')) && sameA l m
  | _, _ => false
end
theorem sameL_eq : ∀ l m, sameL l m = all2 same l m
  | [], [] => by simp [sameL, all2]
  | [], y :: m => by simp [sameL, all2]
  | x :: l, [] => by simp [sameL, all2]
  | x :: l, y :: m => by rw [sameL, all2, sameL_eq]
theorem sameA_eq : ∀ l m, sameA l m = all2 (fun x y : At => x.1 == y.1 && (x.2.2 == y.2.2 && same x.2.1 y.2.1)) l m
  | [], [] => by simp [sameA, all2]
  | [], y :: m => by simp [sameA, all2]
  | x :: l, [] => by simp [sameA, all2]
  | (n, t, o) :: l, (n', t', o') :: m => by rw [sameA, all2, sameA_eq]

theorem elems_pure (F : Base) (k k' : Int) (nm nm' : List UInt8) (a1 a2 b1 b2 : Option Addr) (c1 c2 d1 d2 n2 m2 : Nat) (es fs : List Ty) (ga gb : Nat → List Value) (fv : Value) (p : Ty → Ty → Bool)
    (hl1 : es.length ≤ 9223372036854775807) (hl2 : fs.length ≤ 9223372036854775807)
    (h1 : ∀ (i : Nat) (t : Ty), es[i]? = some t → Cl F a1 4 i (ga i)) (r1 : ∀ (i : Nat) (t : Ty), es[i]? = some t → RepT F (ga i) t)
    (h2 : ∀ (i : Nat) (t : Ty), fs[i]? = some t → Cl F b1 4 i (gb i)) (r2 : ∀ (i : Nat) (t : Ty), fs[i]? = some t → RepT F (gb i) t)
    (hp : ∀ (i : Nat) (x y : Ty), es[i]? = some x → fs[i]? = some y → PureF Try.prog F fv [.agg (ga i).toArray, .agg (gb i).toArray] (.bool (p x y))) :
    PureV Try.prog F 29 #[.agg #[.int .i64 k, .string (bs nm), .slice a1 es.length c1, .slice a2 n2 c2], .agg #[.int .i64 k', .string (bs nm'), .slice b1 fs.length d1, .slice b2 m2 d2], fv] (.bool (all2 p es fs)) := by
  have gi : ∀ (l : List Ty) i, i < l.length → l[i]? = some (l.getD i nilT) := fun l i h => by
    rw [List.getD_eq_getElem?_getD, List.getElem?_eq_getElem h]; rfl
  have h := eqf38 F a1 b1 es.length fs.length c1 d1 ga gb fv (fun i => p (es.getD i nilT) (fs.getD i nilT)) hl1 hl2
    (fun i h => h1 i _ (gi es i h)) (fun i h => ⟨_, r1 i _ (gi es i h)⟩) (fun i h => h2 i _ (gi fs i h)) (fun i h => ⟨_, r2 i _ (gi fs i h)⟩)
    (fun e i h => hp i _ _ (gi es i h) (gi fs i (by omega)))
  rw [← all2_range p nilT] at h
  refine pureV_of_svc mixed Try.func29 low29 (Nat.le_of_ble_eq_true rfl) (fun w0 => ?_)
  simp (disch := first | assumption | exact Ne.symm (by assumption) | omega) only [fu29, ↓ZD, ZU, ne_eq, Zaa, Zab, false_implies, Zac, Zad, Zae, Zaf, Zag, Zah, Zai, Zaj, Zak, Zal, Zam, Zan, Zao, Zap, Zaq, Zar, Zas, Zat, Zau, Zav, Zaw, Zax, Zay, Zaz, Za0, Za1, Za2, Za3, Za4, Za5, Za6, Za7, Za8, Za9, Zba, Zbb, Zbc, Zbd, Zbe, Zbf, Zbg, Zbh, Zbi, Zbj, Zbk, Zbl, Zbm, Zbn, Zbo, Zbp, Zbq, Zbr, Zbs, Zbt, Zbu, Zbv, Zbw, Zbx, Zby, Zbz, Zb0, Zb1, Zb2, decide_true, decide_false, Zb3, Zb4, Zb5, Zb6, Zb7, Zb8, Zb9, Zca, Zcb, Zcc, Zcd, beq_self_eq_true, cond_true, cond_false, if_false, if_true, reduceIte, reduceCtorEq, not_true_eq_false, not_false_eq_true, true_and, and_true, forall_const, false_and, and_false, implies_true, Zce, Zcf, Zcg, Zch, Zci]
  refine NewB.of fun b1 hb1 hF1 => ?_
  simp (disch := first | assumption | exact Ne.symm (by assumption) | omega) only [hF1, ↓ZD, ZU, ne_eq, Zaa, Zab, false_implies, Zac, Zad, Zae, Zaf, Zag, Zah, Zai, Zaj, Zak, Zal, Zam, Zan, Zao, Zap, Zaq, Zar, Zas, Zat, Zau, Zav, Zaw, Zax, Zay, Zaz, Za0, Za1, Za2, Za3, Za4, Za5, Za6, Za7, Za8, Za9, Zba, Zbb, Zbc, Zbd, Zbe, Zbf, Zbg, Zbh, Zbi, Zbj, Zbk, Zbl, Zbm, Zbn, Zbo, Zbp, Zbq, Zbr, Zbs, Zbt, Zbu, Zbv, Zbw, Zbx, Zby, Zbz, Zb0, Zb1, Zb2, decide_true, decide_false, Zb3, Zb4, Zb5, Zb6, Zb7, Zb8, Zb9, Zca, Zcb, Zcc, Zcd, beq_self_eq_true, cond_true, cond_false, if_false, if_true, reduceIte, reduceCtorEq, not_true_eq_false, not_false_eq_true, true_and, and_true, forall_const, false_and, and_false, implies_true, Zce, Zcf, Zcg, Zch, Zci]
  refine NewB.of fun b2 hb2 hF2 => ?_
  simp only [List.forall_mem_cons, List.not_mem_nil] at hb2
  simp (disch := first | assumption | exact Ne.symm (by assumption) | omega) only [hF1, hF2, ↓ZD, ZU, ne_eq, Zaa, Zab, false_implies, Zac, Zad, Zae, Zaf, Zag, Zah, Zai, Zaj, Zak, Zal, Zam, Zan, Zao, Zap, Zaq, Zar, Zas, Zat, Zau, Zav, Zaw, Zax, Zay, Zaz, Za0, Za1, Za2, Za3, Za4, Za5, Za6, Za7, Za8, Za9, Zba, Zbb, Zbc, Zbd, Zbe, Zbf, Zbg, Zbh, Zbi, Zbj, Zbk, Zbl, Zbm, Zbn, Zbo, Zbp, Zbq, Zbr, Zbs, Zbt, Zbu, Zbv, Zbw, Zbx, Zby, Zbz, Zb0, Zb1, Zb2, decide_true, decide_false, Zb3, Zb4, Zb5, Zb6, Zb7, Zb8, Zb9, Zca, Zcb, Zcc, Zcd, beq_self_eq_true, cond_true, cond_false, if_false, if_true, reduceIte, reduceCtorEq, not_true_eq_false, not_false_eq_true, true_and, and_true, forall_const, false_and, and_false, implies_true, Zce, Zcf, Zcg, Zch, Zci]
  refine CallE.pure h ?_
  simp (disch := first | assumption | exact Ne.symm (by assumption) | omega) only [↓ZD, ZU, ne_eq, Zaa, Zab, false_implies, Zac, Zad, Zae, Zaf, Zag, Zah, Zai, Zaj, Zak, Zal, Zam, Zan, Zao, Zap, Zaq, Zar, Zas, Zat, Zau, Zav, Zaw, Zax, Zay, Zaz, Za0, Za1, Za2, Za3, Za4, Za5, Za6, Za7, Za8, Za9, Zba, Zbb, Zbc, Zbd, Zbe, Zbf, Zbg, Zbh, Zbi, Zbj, Zbk, Zbl, Zbm, Zbn, Zbo, Zbp, Zbq, Zbr, Zbs, Zbt, Zbu, Zbv, Zbw, Zbx, Zby, Zbz, Zb0, Zb1, Zb2, decide_true, decide_false, Zb3, Zb4, Zb5, Zb6, Zb7, Zb8, Zb9, Zca, Zcb, Zcc, Zcd, beq_self_eq_true, cond_true, cond_false, if_false, if_true, reduceIte, reduceCtorEq, not_true_eq_false, not_false_eq_true, true_and, and_true, forall_const, false_and, and_false, implies_true, Zce, Zcf, Zcg, Zch, Zci]
theorem f40_pure (F : Base) (b : Nat) (fv : Value) (T : Nat) (hb : F b = some (.cells #[fv] T (0, 0))) (x y : At) (cx cy : List Value) (tx ty : Ty) (hx : RepT F cx tx) (hy : RepT F cy ty) (r : Bool)
    (hp : PureF Try.prog F fv [.agg (.string (bs x.1) :: (cx ++ [.bool x.2.2])).toArray, .agg (.string (bs y.1) :: (cy ++ [.bool y.2.2])).toArray] (.bool r)) :
    PureV Try.prog F 40 #[.agg (.string (bs x.1) :: (cx ++ [.bool x.2.2])).toArray, .agg (.string (bs y.1) :: (cy ++ [.bool y.2.2])).toArray, .pointer (some ⟨b, 0, none⟩)] (.bool (x.1 == y.1 && r)) := by
  obtain ⟨_, _, _, _, _, _, _, _, rfl⟩ := hx.form
  obtain ⟨_, _, _, _, _, _, _, _, rfl⟩ := hy.form
  simp only [List.cons_append, List.nil_append] at hp ⊢
  refine pureV_of_svc mixed Try.func40 low40 (Nat.le_of_ble_eq_true rfl) (fun w0 => ?_)
  simp (disch := first | assumption | exact Ne.symm (by assumption) | omega) only [fu40, ↓ZD, ZU, ne_eq, Zaa, Zab, false_implies, Zac, Zad, Zae, Zaf, Zag, Zah, Zai, Zaj, Zak, Zal, Zam, Zan, Zao, Zap, Zaq, Zar, Zas, Zat, Zau, Zav, Zaw, Zax, Zay, Zaz, Za0, Za1, Za2, Za3, Za4, Za5, Za6, Za7, Za8, Za9, Zba, Zbb, Zbc, Zbd, Zbe, Zbf, Zbg, Zbh, Zbi, Zbj, Zbk, Zbl, Zbm, Zbn, Zbo, Zbp, Zbq, Zbr, Zbs, Zbt, Zbu, Zbv, Zbw, Zbx, Zby, Zbz, Zb0, Zb1, Zb2, decide_true, decide_false, Zb3, Zb4, Zb5, Zb6, Zb7, Zb8, Zb9, Zca, Zcb, Zcc, Zcd, beq_self_eq_true, cond_true, cond_false, if_false, if_true, reduceIte, reduceCtorEq, not_true_eq_false, not_false_eq_true, true_and, and_true, forall_const, false_and, and_false, implies_true, Zce, Zcf, Zcg, Zch, Zci]
  refine NewB.of fun b1 hb1 hF1 => ?_
  simp (disch := first | assumption | exact Ne.symm (by assumption) | omega) only [hF1, ↓ZD, ZU, ne_eq, Zaa, Zab, false_implies, Zac, Zad, Zae, Zaf, Zag, Zah, Zai, Zaj, Zak, Zal, Zam, Zan, Zao, Zap, Zaq, Zar, Zas, Zat, Zau, Zav, Zaw, Zax, Zay, Zaz, Za0, Za1, Za2, Za3, Za4, Za5, Za6, Za7, Za8, Za9, Zba, Zbb, Zbc, Zbd, Zbe, Zbf, Zbg, Zbh, Zbi, Zbj, Zbk, Zbl, Zbm, Zbn, Zbo, Zbp, Zbq, Zbr, Zbs, Zbt, Zbu, Zbv, Zbw, Zbx, Zby, Zbz, Zb0, Zb1, Zb2, decide_true, decide_false, Zb3, Zb4, Zb5, Zb6, Zb7, Zb8, Zb9, Zca, Zcb, Zcc, Zcd, beq_self_eq_true, cond_true, cond_false, if_false, if_true, reduceIte, reduceCtorEq, not_true_eq_false, not_false_eq_true, true_and, and_true, forall_const, false_and, and_false, implies_true, Zce, Zcf, Zcg, Zch, Zci]
  refine NewB.of fun b2 hb2 hF2 => ?_
  simp only [List.forall_mem_cons, List.not_mem_nil] at hb2
  simp (disch := first | assumption | exact Ne.symm (by assumption) | omega) only [hF1, hF2, hb, ↓ZD, ZU, ne_eq, Zaa, Zab, false_implies, Zac, Zad, Zae, Zaf, Zag, Zah, Zai, Zaj, Zak, Zal, Zam, Zan, Zao, Zap, Zaq, Zar, Zas, Zat, Zau, Zav, Zaw, Zax, Zay, Zaz, Za0, Za1, Za2, Za3, Za4, Za5, Za6, Za7, Za8, Za9, Zba, Zbb, Zbc, Zbd, Zbe, Zbf, Zbg, Zbh, Zbi, Zbj, Zbk, Zbl, Zbm, Zbn, Zbo, Zbp, Zbq, Zbr, Zbs, Zbt, Zbu, Zbv, Zbw, Zbx, Zby, Zbz, Zb0, Zb1, Zb2, decide_true, decide_false, Zb3, Zb4, Zb5, Zb6, Zb7, Zb8, Zb9, Zca, Zcb, Zcc, Zcd, beq_self_eq_true, cond_true, cond_false, if_false, if_true, reduceIte, reduceCtorEq, not_true_eq_false, not_false_eq_true, true_and, and_true, forall_const, false_and, and_false, implies_true, Zce, Zcf, Zcg, Zch, Zci]
  refine CallQ.of _ (fun _ => hp.up) ?_
  simp (disch := first | assumption | exact Ne.symm (by assumption) | omega) only [↓ZD, ZU, ne_eq, Zaa, Zab, false_implies, Zac, Zad, Zae, Zaf, Zag, Zah, Zai, Zaj, Zak, Zal, Zam, Zan, Zao, Zap, Zaq, Zar, Zas, Zat, Zau, Zav, Zaw, Zax, Zay, Zaz, Za0, Za1, Za2, Za3, Za4, Za5, Za6, Za7, Za8, Za9, Zba, Zbb, Zbc, Zbd, Zbe, Zbf, Zbg, Zbh, Zbi, Zbj, Zbk, Zbl, Zbm, Zbn, Zbo, Zbp, Zbq, Zbr, Zbs, Zbt, Zbu, Zbv, Zbw, Zbx, Zby, Zbz, Zb0, Zb1, Zb2, decide_true, decide_false, Zb3, Zb4, Zb5, Zb6, Zb7, Zb8, Zb9, Zca, Zcb, Zcc, Zcd, beq_self_eq_true, cond_true, cond_false, if_false, if_true, reduceIte, reduceCtorEq, not_true_eq_false, not_false_eq_true, true_and, and_true, forall_const, false_and, and_false, implies_true, Zce, Zcf, Zcg, Zch, Zci]
/-- What memory holds of a row of attributes. -/
def HasA (F : Base) (a : Option Addr) (l : List At) (g : Nat → List Value) : Prop :=
  (∀ (i : Nat) (x : At), l[i]? = some x → Cl F a 6 i (.string (bs x.1) :: (g i ++ [.bool x.2.2]))) ∧ ∀ (i : Nat) (x : At), l[i]? = some x → RepT F (g i) x.2.1
theorem callable40 : callable Try.prog 40 = true := by kernel_rfl
theorem callable33 : callable Try.prog 33 = true := by kernel_rfl
theorem callable31 : callable Try.prog 31 = true := by kernel_rfl
theorem callable16 : callable Try.prog 16 = true := by kernel_rfl
theorem callable18 : callable Try.prog 18 = true := by kernel_rfl
theorem callable36 : callable Try.prog 36 = true := by kernel_rfl
theorem callable34 : callable Try.prog 34 = true := by kernel_rfl
theorem callable24 : callable Try.prog 24 = true := by kernel_rfl
theorem pairs_aux (F : Base) (b : Nat) (a1 b1 : Option Addr) (c1 d1 : Nat) (es fs : List At) (ga gb : Nat → List Value) (fv : Value) (p : At → At → Bool) (hb : F b = some (.cells #[fv] 48 (0, 0)))
    (hl1 : es.length ≤ 9223372036854775807) (hl2 : fs.length ≤ 9223372036854775807) (h1 : HasA F a1 es ga) (h2 : HasA F b1 fs gb)
    (hp : ∀ (i : Nat) (x y : At), es[i]? = some x → fs[i]? = some y → PureF Try.prog F fv [.agg (.string (bs x.1) :: (ga i ++ [.bool x.2.2])).toArray, .agg (.string (bs y.1) :: (gb i ++ [.bool y.2.2])).toArray] (.bool (p x y))) :
    PureV Try.prog F 39 #[.slice a1 es.length c1, .slice b1 fs.length d1, .func (.func 40) #[] #[.pointer (some ⟨b, 0, none⟩)]] (.bool (all2 (fun x y => x.1 == y.1 && p x y) es fs)) := by
  have gi : ∀ (l : List At) i, i < l.length → l[i]? = some (l.getD i nilA) := fun l i h => by
    rw [List.getD_eq_getElem?_getD, List.getElem?_eq_getElem h]; rfl
  rw [all2_range (fun x y : At => x.1 == y.1 && p x y) nilA]
  refine eqf39 F a1 b1 es.length fs.length c1 d1 (fun i => .string (bs (es.getD i nilA).1) :: (ga i ++ [.bool (es.getD i nilA).2.2])) (fun i => .string (bs (fs.getD i nilA).1) :: (gb i ++ [.bool (fs.getD i nilA).2.2]))
    (.func (.func 40) #[] #[.pointer (some ⟨b, 0, none⟩)]) (fun i => (es.getD i nilA).1 == (fs.getD i nilA).1 && p (es.getD i nilA) (fs.getD i nilA)) hl1 hl2 ?_ ?_ ?_ ?_ ?_
  · exact fun i h => h1.1 i _ (gi es i h)
  · exact fun i h => ⟨_, _, _, _, rfl, h1.2 i _ (gi es i h)⟩
  · exact fun i h => h2.1 i _ (gi fs i h)
  · exact fun i h => ⟨_, _, _, _, rfl, h2.2 i _ (gi fs i h)⟩
  · intro e i h
    have hi2 : i < fs.length := by omega
    exact ⟨40, #[], #[.pointer (some ⟨b, 0, none⟩)], rfl, callable40, f40_pure F b fv 48 hb _ _ _ _ _ _ (h1.2 i _ (gi es i h)) (h2.2 i _ (gi fs i hi2)) _ (hp i _ _ (gi es i h) (gi fs i hi2))⟩
theorem HasA.mono {F F' : Base} {a : Option Addr} {l : List At} {g : Nat → List Value} (h : HasA F a l g) (hF : ∀ b o, F b = some o → F' b = some o) : HasA F' a l g :=
  ⟨fun i x hx => (h.1 i x hx).mono hF, fun i x hx => (h.2 i x hx).mono hF⟩
theorem pairs_pure (F : Base) (a1 b1 : Option Addr) (c1 d1 : Nat) (es fs : List At) (ga gb : Nat → List Value) (f0 : Nat) (p : At → At → Bool)
    (hl1 : es.length ≤ 9223372036854775807) (hl2 : fs.length ≤ 9223372036854775807) (h1 : HasA F a1 es ga) (h2 : HasA F b1 fs gb)
    (hp : ∀ (i : Nat) (x y : At), es[i]? = some x → fs[i]? = some y → PureF Try.prog F (.func (.func f0) #[] #[]) [.agg (.string (bs x.1) :: (ga i ++ [.bool x.2.2])).toArray, .agg (.string (bs y.1) :: (gb i ++ [.bool y.2.2])).toArray] (.bool (p x y))) :
    PureV Try.prog F 30 #[.slice a1 es.length c1, .slice b1 fs.length d1, (.func (.func f0) #[] #[])] (.bool (all2 (fun x y => x.1 == y.1 && p x y) es fs)) := by
  refine pureV_of_svc mixed Try.func30 low30 (Nat.le_of_ble_eq_true rfl) (fun w0 => ?_)
  simp (disch := first | assumption | exact Ne.symm (by assumption) | omega) only [fu30, ↓ZD, ZU, ne_eq, Zaa, Zab, false_implies, Zac, Zad, Zae, Zaf, Zag, Zah, Zai, Zaj, Zak, Zal, Zam, Zan, Zao, Zap, Zaq, Zar, Zas, Zat, Zau, Zav, Zaw, Zax, Zay, Zaz, Za0, Za1, Za2, Za3, Za4, Za5, Za6, Za7, Za8, Za9, Zba, Zbb, Zbc, Zbd, Zbe, Zbf, Zbg, Zbh, Zbi, Zbj, Zbk, Zbl, Zbm, Zbn, Zbo, Zbp, Zbq, Zbr, Zbs, Zbt, Zbu, Zbv, Zbw, Zbx, Zby, Zbz, Zb0, Zb1, Zb2, decide_true, decide_false, Zb3, Zb4, Zb5, Zb6, Zb7, Zb8, Zb9, Zca, Zcb, Zcc, Zcd, beq_self_eq_true, cond_true, cond_false, if_false, if_true, reduceIte, reduceCtorEq, not_true_eq_false, not_false_eq_true, true_and, and_true, forall_const, false_and, and_false, implies_true, Zce, Zcf, Zcg, Zch, Zci]
  refine NewB.of fun b hb hF => ?_
  simp (disch := first | assumption | exact Ne.symm (by assumption) | omega) only [hF, ↓ZD, ZU, ne_eq, Zaa, Zab, false_implies, Zac, Zad, Zae, Zaf, Zag, Zah, Zai, Zaj, Zak, Zal, Zam, Zan, Zao, Zap, Zaq, Zar, Zas, Zat, Zau, Zav, Zaw, Zax, Zay, Zaz, Za0, Za1, Za2, Za3, Za4, Za5, Za6, Za7, Za8, Za9, Zba, Zbb, Zbc, Zbd, Zbe, Zbf, Zbg, Zbh, Zbi, Zbj, Zbk, Zbl, Zbm, Zbn, Zbo, Zbp, Zbq, Zbr, Zbs, Zbt, Zbu, Zbv, Zbw, Zbx, Zby, Zbz, Zb0, Zb1, Zb2, decide_true, decide_false, Zb3, Zb4, Zb5, Zb6, Zb7, Zb8, Zb9, Zca, Zcb, Zcc, Zcd, beq_self_eq_true, cond_true, cond_false, if_false, if_true, reduceIte, reduceCtorEq, not_true_eq_false, not_false_eq_true, true_and, and_true, forall_const, false_and, and_false, implies_true, Zce, Zcf, Zcg, Zch, Zci]
  have hbx : rdObj F [(b, .cells #[(.func (.func f0) #[] #[])] 48 (0, 0))] b = some (.cells #[(.func (.func f0) #[] #[])] 48 (0, 0)) := by simp [rdObj, hF, lk]
  have h := pairs_aux (rdObj F [(b, .cells #[(.func (.func f0) #[] #[])] 48 (0, 0))]) b a1 b1 c1 d1 es fs ga gb (.func (.func f0) #[] #[]) p hbx hl1 hl2 (h1.mono le_up) (h2.mono le_up) (fun i x y hx hy => (hp i x y hx hy).up)
  refine CallE.pureH h ?_
  simp (disch := first | assumption | exact Ne.symm (by assumption) | omega) only [↓ZD, ZU, ne_eq, Zaa, Zab, false_implies, Zac, Zad, Zae, Zaf, Zag, Zah, Zai, Zaj, Zak, Zal, Zam, Zan, Zao, Zap, Zaq, Zar, Zas, Zat, Zau, Zav, Zaw, Zax, Zay, Zaz, Za0, Za1, Za2, Za3, Za4, Za5, Za6, Za7, Za8, Za9, Zba, Zbb, Zbc, Zbd, Zbe, Zbf, Zbg, Zbh, Zbi, Zbj, Zbk, Zbl, Zbm, Zbn, Zbo, Zbp, Zbq, Zbr, Zbs, Zbt, Zbu, Zbv, Zbw, Zbx, Zby, Zbz, Zb0, Zb1, Zb2, decide_true, decide_false, Zb3, Zb4, Zb5, Zb6, Zb7, Zb8, Zb9, Zca, Zcb, Zcc, Zcd, beq_self_eq_true, cond_true, cond_false, if_false, if_true, reduceIte, reduceCtorEq, not_true_eq_false, not_false_eq_true, true_and, and_true, forall_const, false_and, and_false, implies_true, Zce, Zcf, Zcg, Zch, Zci]
theorem f33_pure (F : Base) (x y : At) (cx cy : List Value) (hx : RepT F cx x.2.1) (hy : RepT F cy y.2.1) (h : PureV Try.prog F 18 #[.agg cx.toArray, .agg cy.toArray] (.bool (same x.2.1 y.2.1))) :
    PureV Try.prog F 33 #[.agg (.string (bs x.1) :: (cx ++ [.bool x.2.2])).toArray, .agg (.string (bs y.1) :: (cy ++ [.bool y.2.2])).toArray] (.bool (x.2.2 == y.2.2 && same x.2.1 y.2.1)) := by
  obtain ⟨_, _, _, _, _, _, _, _, rfl⟩ := hx.form
  obtain ⟨_, _, _, _, _, _, _, _, rfl⟩ := hy.form
  simp only [List.cons_append, List.nil_append]
  refine pureV_of_svc mixed Try.func33 low33 (Nat.le_of_ble_eq_true rfl) (fun w0 => ?_)
  simp (disch := first | assumption | exact Ne.symm (by assumption) | omega) only [fu33, ↓ZD, ZU, ne_eq, Zaa, Zab, false_implies, Zac, Zad, Zae, Zaf, Zag, Zah, Zai, Zaj, Zak, Zal, Zam, Zan, Zao, Zap, Zaq, Zar, Zas, Zat, Zau, Zav, Zaw, Zax, Zay, Zaz, Za0, Za1, Za2, Za3, Za4, Za5, Za6, Za7, Za8, Za9, Zba, Zbb, Zbc, Zbd, Zbe, Zbf, Zbg, Zbh, Zbi, Zbj, Zbk, Zbl, Zbm, Zbn, Zbo, Zbp, Zbq, Zbr, Zbs, Zbt, Zbu, Zbv, Zbw, Zbx, Zby, Zbz, Zb0, Zb1, Zb2, decide_true, decide_false, Zb3, Zb4, Zb5, Zb6, Zb7, Zb8, Zb9, Zca, Zcb, Zcc, Zcd, beq_self_eq_true, cond_true, cond_false, if_false, if_true, reduceIte, reduceCtorEq, not_true_eq_false, not_false_eq_true, true_and, and_true, forall_const, false_and, and_false, implies_true, Zce, Zcf, Zcg, Zch, Zci]
  refine NewB.of fun b1 hb1 hF1 => ?_
  simp (disch := first | assumption | exact Ne.symm (by assumption) | omega) only [hF1, ↓ZD, ZU, ne_eq, Zaa, Zab, false_implies, Zac, Zad, Zae, Zaf, Zag, Zah, Zai, Zaj, Zak, Zal, Zam, Zan, Zao, Zap, Zaq, Zar, Zas, Zat, Zau, Zav, Zaw, Zax, Zay, Zaz, Za0, Za1, Za2, Za3, Za4, Za5, Za6, Za7, Za8, Za9, Zba, Zbb, Zbc, Zbd, Zbe, Zbf, Zbg, Zbh, Zbi, Zbj, Zbk, Zbl, Zbm, Zbn, Zbo, Zbp, Zbq, Zbr, Zbs, Zbt, Zbu, Zbv, Zbw, Zbx, Zby, Zbz, Zb0, Zb1, Zb2, decide_true, decide_false, Zb3, Zb4, Zb5, Zb6, Zb7, Zb8, Zb9, Zca, Zcb, Zcc, Zcd, beq_self_eq_true, cond_true, cond_false, if_false, if_true, reduceIte, reduceCtorEq, not_true_eq_false, not_false_eq_true, true_and, and_true, forall_const, false_and, and_false, implies_true, Zce, Zcf, Zcg, Zch, Zci]
  refine NewB.of fun b2 hb2 hF2 => ?_
  simp only [List.forall_mem_cons, List.not_mem_nil] at hb2
  simp (disch := first | assumption | exact Ne.symm (by assumption) | omega) only [hF1, hF2, beqV_of, ↓ZD, ZU, ne_eq, Zaa, Zab, false_implies, Zac, Zad, Zae, Zaf, Zag, Zah, Zai, Zaj, Zak, Zal, Zam, Zan, Zao, Zap, Zaq, Zar, Zas, Zat, Zau, Zav, Zaw, Zax, Zay, Zaz, Za0, Za1, Za2, Za3, Za4, Za5, Za6, Za7, Za8, Za9, Zba, Zbb, Zbc, Zbd, Zbe, Zbf, Zbg, Zbh, Zbi, Zbj, Zbk, Zbl, Zbm, Zbn, Zbo, Zbp, Zbq, Zbr, Zbs, Zbt, Zbu, Zbv, Zbw, Zbx, Zby, Zbz, Zb0, Zb1, Zb2, decide_true, decide_false, Zb3, Zb4, Zb5, Zb6, Zb7, Zb8, Zb9, Zca, Zcb, Zcc, Zcd, beq_self_eq_true, cond_true, cond_false, if_false, if_true, reduceIte, reduceCtorEq, not_true_eq_false, not_false_eq_true, true_and, and_true, forall_const, false_and, and_false, implies_true, Zce, Zcf, Zcg, Zch, Zci]
  refine CallQ.of _ (fun _ => h.up) ?_
  simp (disch := first | assumption | exact Ne.symm (by assumption) | omega) only [↓ZD, ZU, ne_eq, Zaa, Zab, false_implies, Zac, Zad, Zae, Zaf, Zag, Zah, Zai, Zaj, Zak, Zal, Zam, Zan, Zao, Zap, Zaq, Zar, Zas, Zat, Zau, Zav, Zaw, Zax, Zay, Zaz, Za0, Za1, Za2, Za3, Za4, Za5, Za6, Za7, Za8, Za9, Zba, Zbb, Zbc, Zbd, Zbe, Zbf, Zbg, Zbh, Zbi, Zbj, Zbk, Zbl, Zbm, Zbn, Zbo, Zbp, Zbq, Zbr, Zbs, Zbt, Zbu, Zbv, Zbw, Zbx, Zby, Zbz, Zb0, Zb1, Zb2, decide_true, decide_false, Zb3, Zb4, Zb5, Zb6, Zb7, Zb8, Zb9, Zca, Zcb, Zcc, Zcd, beq_self_eq_true, cond_true, cond_false, if_false, if_true, reduceIte, reduceCtorEq, not_true_eq_false, not_false_eq_true, true_and, and_true, forall_const, false_and, and_false, implies_true, Zce, Zcf, Zcg, Zch, Zci]
theorem same_pure (F : Base) {ca : List Value} {a : Ty} (ha : RepT F ca a) : ∀ cb b, RepT F cb b → PureV Try.prog F 18 #[.agg ca.toArray, .agg cb.toArray] (.bool (same a b)) := by
  induction ha with
  | mk k nm a1 c1 a2 c2 es ats g1 g2 hk hn hl1 hl2 hc1 hc2 h1 r1 h2 r2 i1 i2 =>
    intro cb b hb
    cases hb with
    | mk k' nm' a1' c1' a2' c2' es' ats' g1' g2' hk' hn' hl1' hl2' hc1' hc2' h1' r1' h2' r2' =>
      refine pureV_of_svc mixed Try.func18 low18 (Nat.le_of_ble_eq_true rfl) (fun w0 => ?_)
      simp (disch := first | assumption | exact Ne.symm (by assumption) | omega) only [fu18, ↓ZD, ZU, ne_eq, Zaa, Zab, false_implies, Zac, Zad, Zae, Zaf, Zag, Zah, Zai, Zaj, Zak, Zal, Zam, Zan, Zao, Zap, Zaq, Zar, Zas, Zat, Zau, Zav, Zaw, Zax, Zay, Zaz, Za0, Za1, Za2, Za3, Za4, Za5, Za6, Za7, Za8, Za9, Zba, Zbb, Zbc, Zbd, Zbe, Zbf, Zbg, Zbh, Zbi, Zbj, Zbk, Zbl, Zbm, Zbn, Zbo, Zbp, Zbq, Zbr, Zbs, Zbt, Zbu, Zbv, Zbw, Zbx, Zby, Zbz, Zb0, Zb1, Zb2, decide_true, decide_false, Zb3, Zb4, Zb5, Zb6, Zb7, Zb8, Zb9, Zca, Zcb, Zcc, Zcd, beq_self_eq_true, cond_true, cond_false, if_false, if_true, reduceIte, reduceCtorEq, not_true_eq_false, not_false_eq_true, true_and, and_true, forall_const, false_and, and_false, implies_true, Zce, Zcf, Zcg, Zch, Zci]
      refine NewB.of fun b1 hb1 hF1 => ?_
      simp (disch := first | assumption | exact Ne.symm (by assumption) | omega) only [hF1, ↓ZD, ZU, ne_eq, Zaa, Zab, false_implies, Zac, Zad, Zae, Zaf, Zag, Zah, Zai, Zaj, Zak, Zal, Zam, Zan, Zao, Zap, Zaq, Zar, Zas, Zat, Zau, Zav, Zaw, Zax, Zay, Zaz, Za0, Za1, Za2, Za3, Za4, Za5, Za6, Za7, Za8, Za9, Zba, Zbb, Zbc, Zbd, Zbe, Zbf, Zbg, Zbh, Zbi, Zbj, Zbk, Zbl, Zbm, Zbn, Zbo, Zbp, Zbq, Zbr, Zbs, Zbt, Zbu, Zbv, Zbw, Zbx, Zby, Zbz, Zb0, Zb1, Zb2, decide_true, decide_false, Zb3, Zb4, Zb5, Zb6, Zb7, Zb8, Zb9, Zca, Zcb, Zcc, Zcd, beq_self_eq_true, cond_true, cond_false, if_false, if_true, reduceIte, reduceCtorEq, not_true_eq_false, not_false_eq_true, true_and, and_true, forall_const, false_and, and_false, implies_true, Zce, Zcf, Zcg, Zch, Zci]
      refine NewB.of fun b2 hb2 hF2 => ?_
      simp only [List.forall_mem_cons, List.not_mem_nil] at hb2
      rw [same]
      simp (disch := first | assumption | exact Ne.symm (by assumption) | omega) only [hF1, hF2, ↓ZD, ZU, ne_eq, Zaa, Zab, false_implies, Zac, Zad, Zae, Zaf, Zag, Zah, Zai, Zaj, Zak, Zal, Zam, Zan, Zao, Zap, Zaq, Zar, Zas, Zat, Zau, Zav, Zaw, Zax, Zay, Zaz, Za0, Za1, Za2, Za3, Za4, Za5, Za6, Za7, Za8, Za9, Zba, Zbb, Zbc, Zbd, Zbe, Zbf, Zbg, Zbh, Zbi, Zbj, Zbk, Zbl, Zbm, Zbn, Zbo, Zbp, Zbq, Zbr, Zbs, Zbt, Zbu, Zbv, Zbw, Zbx, Zby, Zbz, Zb0, Zb1, Zb2, decide_true, decide_false, Zb3, Zb4, Zb5, Zb6, Zb7, Zb8, Zb9, Zca, Zcb, Zcc, Zcd, beq_self_eq_true, cond_true, cond_false, if_false, if_true, reduceIte, reduceCtorEq, not_true_eq_false, not_false_eq_true, true_and, and_true, forall_const, false_and, and_false, implies_true, Zce, Zcf, Zcg, Zch, Zci]
      refine ⟨fun hkk => ?_, fun hkk => ?_⟩
      · have : (k == k') = false := by simpa using hkk
        rw [this]; rfl
      · have hkk' : (k == k') = true := by simpa using hkk
        rw [hkk', Bool.true_and]
        refine ⟨fun h6 => ?_, fun h6 => ⟨fun h7 => ?_, fun h7 => ⟨fun h8 => ?_, fun h8 => ?_⟩⟩⟩
        · rw [if_pos (by simpa using h6)]
        · rw [if_neg (by simpa using h6), if_pos (by simpa using h7), sameL_eq]
          refine CallE.pure (elems_pure F k k' nm nm' a1 a2 a1' a2' c1 c2 c1' c2' ats.length ats'.length es es' g1 g1' (.func (.func 18) #[] #[]) same hl1 hl1' h1 r1 h1' r1'
            (fun i x y hx hy => ⟨18, #[], #[], rfl, callable18, i1 i x hx _ y (r1' i y hy)⟩)) ?_
          simp (disch := first | assumption | exact Ne.symm (by assumption) | omega) only [↓ZD, ZU, ne_eq, Zaa, Zab, false_implies, Zac, Zad, Zae, Zaf, Zag, Zah, Zai, Zaj, Zak, Zal, Zam, Zan, Zao, Zap, Zaq, Zar, Zas, Zat, Zau, Zav, Zaw, Zax, Zay, Zaz, Za0, Za1, Za2, Za3, Za4, Za5, Za6, Za7, Za8, Za9, Zba, Zbb, Zbc, Zbd, Zbe, Zbf, Zbg, Zbh, Zbi, Zbj, Zbk, Zbl, Zbm, Zbn, Zbo, Zbp, Zbq, Zbr, Zbs, Zbt, Zbu, Zbv, Zbw, Zbx, Zby, Zbz, Zb0, Zb1, Zb2, decide_true, decide_false, Zb3, Zb4, Zb5, Zb6, Zb7, Zb8, Zb9, Zca, Zcb, Zcc, Zcd, beq_self_eq_true, cond_true, cond_false, if_false, if_true, reduceIte, reduceCtorEq, not_true_eq_false, not_false_eq_true, true_and, and_true, forall_const, false_and, and_false, implies_true, Zce, Zcf, Zcg, Zch, Zci]
        · rw [if_neg (by simpa using h6), if_neg (by simpa using h7), if_pos (by simpa using h8), sameA_eq]
          refine CallE.pure (pairs_pure F a2 a2' c2 c2' ats ats' g2 g2' 33 (fun x y => x.2.2 == y.2.2 && same x.2.1 y.2.1) hl2 hl2' ⟨h2, r2⟩ ⟨h2', r2'⟩
            (fun i x y hx hy => ⟨33, #[], #[], rfl, callable33, f33_pure F x y _ _ (r2 i x hx) (r2' i y hy) (i2 i x hx _ _ (r2' i y hy))⟩)) ?_
          simp (disch := first | assumption | exact Ne.symm (by assumption) | omega) only [↓ZD, ZU, ne_eq, Zaa, Zab, false_implies, Zac, Zad, Zae, Zaf, Zag, Zah, Zai, Zaj, Zak, Zal, Zam, Zan, Zao, Zap, Zaq, Zar, Zas, Zat, Zau, Zav, Zaw, Zax, Zay, Zaz, Za0, Za1, Za2, Za3, Za4, Za5, Za6, Za7, Za8, Za9, Zba, Zbb, Zbc, Zbd, Zbe, Zbf, Zbg, Zbh, Zbi, Zbj, Zbk, Zbl, Zbm, Zbn, Zbo, Zbp, Zbq, Zbr, Zbs, Zbt, Zbu, Zbv, Zbw, Zbx, Zby, Zbz, Zb0, Zb1, Zb2, decide_true, decide_false, Zb3, Zb4, Zb5, Zb6, Zb7, Zb8, Zb9, Zca, Zcb, Zcc, Zcd, beq_self_eq_true, cond_true, cond_false, if_false, if_true, reduceIte, reduceCtorEq, not_true_eq_false, not_false_eq_true, true_and, and_true, forall_const, false_and, and_false, implies_true, Zce, Zcf, Zcg, Zch, Zci]
        · rw [if_neg (by simpa using h6), if_neg (by simpa using h7), if_neg (by simpa using h8)]
end Go.Proofs.Ytdljgcicncegkaa
