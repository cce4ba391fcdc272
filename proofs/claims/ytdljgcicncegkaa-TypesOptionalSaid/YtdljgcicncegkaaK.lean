/- Layer 11: joins, of the program. -/
import Derived.Test.YtdljgcicncegkaaJ
namespace Go.Proofs.Ytdljgcicncegkaa
open Go Go.Eng
open Int renaming reduceEq → Zaa, cast_ofNat_Int → Zac, reduceToNat → Zbu, toNat_zero → Zbv, toNat_one → Zbw, reduceLE → Zbx, reduceLT → Zby, reduceAdd → Zbz, reduceSub → Zb0, reduceNeg → Zb1, zero_add → Zb2, reducePow → Zcg, reduceNegSucc → Zci
open UInt8 renaming reduceOfNat → Zab
open List renaming toList_toArray → Zad, length_append → Zag, cons_append → Zav, nil_append → Zaw, length_cons → Zax, length_nil → Zay, drop_zero → Zaz, drop_succ_cons → Za0, take_succ_cons → Za1, take_zero → Za2, drop_nil → Za3, take_nil → Za4, append_nil → Za5, all_cons → Za6, all_nil → Za7, isEmpty_cons → Za8, size_toArray → Za9, getElem?_toArray → Zba, getElem?_cons_zero → Zbb, getElem?_cons_succ → Zbc, getD_cons_zero → Zbd, getD_cons_succ → Zbe, mapM_cons → Zbf, mapM_nil → Zbg
open Option renaming getD_some → Zae, getD_none → Zaf, map_some → Zar, map_none → Zas, bind_some → Zat, bind_none → Zau
open Nat renaming le_add_right → Zah, reduceAdd → Zbi, reduceMul → Zbj, reduceMod → Zbk, reduceDiv → Zbl, reduceEqDiff → Zbm, reduceBEq → Zbn, reduceLeDiff → Zbo, reduceSub → Zbp, zero_add → Zbq, add_zero → Zbr, le_refl → Zbs, zero_le → Zbt, reducePow → Zcf, reduceLT → Zch
open Go.Eng renaming subG → Zai, lit → Zaj, isPar → Zak, numb → Zal, Wf → Zam, resV → Zan, oneCell → Zao, isB → Zap, asB → Zaq
open Go.Value renaming cells → Zbh
open Bool renaming and_true → Zb3, true_and → Zb4, and_self → Zb5, not_true → Zb6, not_false → Zb7, and_false → Zb8, or_false → Zb9, or_true → Zca, true_or → Zcb, false_or → Zcc, false_and → Zcd, false_eq_true → Zce
set_option linter.unusedSimpArgs false
set_option linter.unusedVariables false
set_option maxRecDepth 20000

/-! ### Lists of own blocks -/
def Okh (H : Hp) : Prop := ∀ e ∈ H, lk H e.1 = some e.2
theorem Okh.nil : Okh [] := fun e he => by cases he
theorem Okh.app {A B : Hp} (ha : Okh A) (hb : Okh B) (hd : ∀ e' ∈ A, ∀ e ∈ B, e.1 ≠ e'.1) : Okh (A ++ B) := by
  intro e he
  rw [lk_append]
  rcases List.mem_append.1 he with he | he
  · rw [ha e he]
  · rw [lk_none fun e' he' => (hd e' he' e he).symm, hb e he]
theorem Okh.cons {A : Hp} {b : Nat} {o : Obj} (ha : Okh A) (hd : ∀ e ∈ A, e.1 ≠ b) : Okh ((b, o) :: A) :=
  Okh.app (A := [(b, o)]) (fun e he => by obtain rfl := List.mem_singleton.1 he; simp [lk]) ha (fun e' he' e he => by obtain rfl := List.mem_singleton.1 he'; exact hd e he)
theorem HLe.of {A H : Hp} (h : ∀ e ∈ A, lk H e.1 = some e.2) : HLe A H := by
  induction A with
  | nil => trivial
  | cons x r ih => exact ⟨h x List.mem_cons_self, ih fun e he => h e (List.mem_cons_of_mem _ he)⟩
theorem rdObj_app {F : Base} {A B : Hp} {b : Nat} {o : Obj} (hd : ∀ e' ∈ A, ∀ e ∈ B, e.1 ≠ e'.1) (h : rdObj F B b = some o) : rdObj F (A ++ B) b = some o := by
  unfold rdObj at *
  cases hF : F b with
  | some o' => rw [hF] at h; exact h
  | none =>
    rw [hF] at h
    simp only at h ⊢
    rw [lk_append, lk_none fun e' he' => (hd e' he' _ (lk_mem h)).symm]
    exact h
theorem rdObj_app' {F : Base} {A B : Hp} {b : Nat} {o : Obj} (h : rdObj F A b = some o) : rdObj F (A ++ B) b = some o := hext_app b o h
theorem rdObj_sub {F : Base} {A B : Hp} {b : Nat} {o : Obj} (hs : ∀ e ∈ A, lk B e.1 = some e.2) (h : rdObj F A b = some o) : rdObj F B b = some o := by
  unfold rdObj at *
  cases hF : F b with
  | some o' => rw [hF] at h; exact h
  | none => rw [hF] at h; exact hs _ (lk_mem h)
def zT : List Value := [.int .i64 0, .string (bs []), .slice none 0 0, .slice none 0 0]
theorem Okh.lk {A B : Hp} (hB : Okh B) (hd : ∀ e' ∈ A, ∀ e ∈ B, e.1 ≠ e'.1) : ∀ e ∈ B, Eng.lk (A ++ B) e.1 = some e.2 := fun e he => by
  rw [lk_append, lk_none fun e' he' => (hd e' he' e he).symm, hB e he]
theorem rep_set {G : Base} {b : Nat} {cs : List Value} {u : Ty} (hb : G b = some (.cells cs.toArray 25 (0, 0))) (hr : RepT G cs u) :
    RepT G [.int .i64 7, .string (bs []), .slice (some ⟨b, 0, none⟩) 1 1, .slice none 0 0] (.mk 7 [] [u] []) := by
  have hcl : Cl G (some ⟨b, 0, none⟩) 4 0 cs := by
    obtain ⟨_, _, _, _, _, _, _, _, rfl⟩ := hr.form
    exact ⟨b, 0, _, _, _, rfl, hb, by simp, by simp⟩
  refine RepT.mk 7 [] (some ⟨b, 0, none⟩) 1 none 0 [u] [] (fun _ => cs) (fun _ => []) (by omega) (by simp) (by simp) (by simp) (by simp) (by simp) ?_ ?_ (by simp) (by simp)
  all_goals
    intro i t h
    have h0 : i = 0 := by
      rcases i with _ | i
      · rfl
      · simp at h
    subst h0
    simp only [List.getElem?_cons_zero, Option.some.injEq] at h
    subst h
    first | exact hcl | exact hr
/-- What a join's call gives: the join, held in old memory and in new blocks. -/
def JoinP (F : Base) (o : Option Ty) (cs : List Value) (er : Int) (H : Hp) : Prop := match o with
  | some t => er = 0 ∧ RepT (rdObj F H) cs t ∧ Okh H
  | none => cs = zT ∧ er = 30 ∧ H = []
def JoinR (F : Base) (o : Option Ty) (v : Value) (H : Hp) : Prop := ∃ cs er, v = .tuple #[.agg cs.toArray, .int .i64 er] ∧ JoinP F o cs er H
theorem JoinP.form {F : Base} {o : Option Ty} {cs : List Value} {er : Int} {H : Hp} (h : JoinP F o cs er H) : ∃ k nm a1 n1 c1 a2 n2 c2, cs = [.int .i64 k, .string (bs nm), .slice a1 n1 c1, .slice a2 n2 c2] := by
  cases o with
  | none => obtain ⟨rfl, -, -⟩ := h; exact ⟨_, _, _, _, _, _, _, _, rfl⟩
  | some t => exact h.2.1.form
theorem JoinP.mono {F F' : Base} {o : Option Ty} {cs : List Value} {er : Int} {H H' : Hp} (h : JoinP F o cs er H) (hF : ∀ b o, rdObj F H b = some o → rdObj F' H' b = some o) (hH : Okh H → Okh H') (h0 : H = [] → H' = []) : JoinP F' o cs er H' := by
  cases o with
  | none => obtain ⟨h1, h2, rfl⟩ := h; exact ⟨h1, h2, h0 rfl⟩
  | some t => exact ⟨h.1, h.2.1.mono hF, hH h.2.2⟩
theorem JoinP.ok {F : Base} {o : Option Ty} {cs : List Value} {er : Int} {H : Hp} (h : JoinP F o cs er H) : Okh H := by
  cases o with
  | none => obtain ⟨-, -, rfl⟩ := h; exact Okh.nil
  | some t => exact h.2.2
theorem okh_own {F : Base} {n T : Nat} {l : List Value} {len : Nat} {v : Value} {Ho : Hp} (h : OwnS F n T l len v Ho) : Okh Ho := by
  rcases h.out with ⟨-, -, -, rfl⟩ | ⟨b, cap, sp, -, rfl, -⟩
  · exact Okh.nil
  · exact Okh.nil.cons (fun e he => by cases he)
/-- Rows of cells that hold attributes. -/
def RowsA (G : Base) (r : List At) (rows : List Value) : Prop := ∀ (j : Nat) (x : At), r[j]? = some x → ∃ cs, (rows.drop (j * 6)).take 6 = .string (bs x.1) :: (cs ++ [.bool x.2.2]) ∧ RepT G cs x.2.1 ∧ x.1.length ≤ 9223372036854775807
theorem RowsA.mono {G G' : Base} {r : List At} {rows : List Value} (h : RowsA G r rows) (hG : ∀ b o, G b = some o → G' b = some o) : RowsA G' r rows := fun j x hx => by
  obtain ⟨cs, h1, h2, h3⟩ := h j x hx
  exact ⟨cs, h1, h2.mono hG, h3⟩
theorem RowsA.snoc {G : Base} {r : List At} {rows : List Value} (h : RowsA G r rows) (hl : rows.length = r.length * 6) {n : List UInt8} {u : Ty} {o : Bool} {cs : List Value} (hr : RepT G cs u) (hn : n.length ≤ 9223372036854775807) :
    RowsA G (r ++ [(n, u, o)]) (rows ++ (.string (bs n) :: (cs ++ [.bool o]))) := fun j x hx => by
  have hc : cs.length = 4 := by obtain ⟨_, _, _, _, _, _, _, _, rfl⟩ := hr.form; rfl
  rcases Nat.lt_trichotomy j r.length with hj | hj | hj
  · rw [List.getElem?_append_left hj] at hx
    obtain ⟨c, h1, h2, h3⟩ := h j x hx
    refine ⟨c, ?_, h2, h3⟩
    rw [List.drop_append_of_le_length (by omega), List.take_append_of_le_length (by rw [List.length_drop]; omega), h1]
  · subst hj
    rw [List.getElem?_append_right (Nat.le_refl _), Nat.sub_self] at hx
    simp only [List.getElem?_cons_zero, Option.some.injEq] at hx
    subst hx
    refine ⟨cs, ?_, hr, hn⟩
    rw [← hl, List.drop_left, List.take_of_length_le (by simp [hc])]
  · rw [List.getElem?_eq_none (by simp; omega)] at hx; cases hx
theorem rep_rec {G : Base} {b cap : Nat} {r : List At} {rows sp : List Value} (hb : G b = some (.cells (rows ++ sp).toArray 30 (0, 0))) (h : RowsA G r rows) (hl : rows.length = r.length * 6) (hc : r.length ≤ cap) (hm : r.length ≤ 9223372036854775807) :
    RepT G [.int .i64 8, .string (bs []), .slice none 0 0, .slice (some ⟨b, 0, none⟩) r.length cap] (.mk 8 [] [] r) := by
  refine RepT.mk 8 [] none 0 (some ⟨b, 0, none⟩) cap [] r (fun _ => []) (fun i => (((rows.drop (i * 6)).take 6).drop 1).take 4) (by omega) ⟨by simp, fun i x hx => by obtain ⟨_, _, _, h3⟩ := h i x hx; exact h3⟩ (by simp) hm (by simp) hc (by simp) (by simp) (fun i x hx => ?_) (fun i x hx => ?_)
  all_goals
    obtain ⟨cs, h1, h2, h3⟩ := h i x hx
    have hcs : cs.length = 4 := by obtain ⟨_, _, _, _, _, _, _, _, rfl⟩ := h2.form; rfl
    have hi := (List.getElem?_eq_some_iff.mp hx).1
    have e : (((rows.drop (i * 6)).take 6).drop 1).take 4 = cs := by
      rw [h1, List.drop_succ_cons, List.drop_zero, ← hcs, List.take_left]
    rw [e]
  · refine ⟨b, 0, _, _, _, rfl, hb, by simp; omega, ?_⟩
    rw [← h1, List.toList_toArray, Nat.zero_add, List.drop_append_of_le_length (by omega), List.take_append_of_le_length (by rw [List.length_drop]; omega)]
  · exact h2
theorem f34_pure (F : Base) (x y : At) (cx cy : List Value) (hx : RepT F cx x.2.1) (hy : RepT F cy y.2.1) :
    PureV Try.prog F 34 #[.agg (.string (bs x.1) :: (cx ++ [.bool x.2.2])).toArray, .agg (.string (bs y.1) :: (cy ++ [.bool y.2.2])).toArray] (.bool true) := by
  obtain ⟨_, _, _, _, _, _, _, _, rfl⟩ := hx.form
  obtain ⟨_, _, _, _, _, _, _, _, rfl⟩ := hy.form
  simp only [List.cons_append, List.nil_append]
  refine pureV_of_svc mixed Try.func34 low34 (Nat.le_of_ble_eq_true rfl) (fun w0 => ?_)
  simp (disch := first | assumption | exact Ne.symm (by assumption) | omega) only [fu34, ↓ZD, ZU, ne_eq, Zaa, Zab, false_implies, Zac, Zad, Zae, Zaf, Zag, Zah, Zai, Zaj, Zak, Zal, Zam, Zan, Zao, Zap, Zaq, Zar, Zas, Zat, Zau, Zav, Zaw, Zax, Zay, Zaz, Za0, Za1, Za2, Za3, Za4, Za5, Za6, Za7, Za8, Za9, Zba, Zbb, Zbc, Zbd, Zbe, Zbf, Zbg, Zbh, Zbi, Zbj, Zbk, Zbl, Zbm, Zbn, Zbo, Zbp, Zbq, Zbr, Zbs, Zbt, Zbu, Zbv, Zbw, Zbx, Zby, Zbz, Zb0, Zb1, Zb2, decide_true, decide_false, Zb3, Zb4, Zb5, Zb6, Zb7, Zb8, Zb9, Zca, Zcb, Zcc, Zcd, beq_self_eq_true, cond_true, cond_false, if_false, if_true, reduceIte, reduceCtorEq, not_true_eq_false, not_false_eq_true, true_and, and_true, forall_const, false_and, and_false, implies_true, Zce, Zcf, Zcg, Zch, Zci]
  refine NewB.of fun b1 hb1 hF1 => ?_
  simp (disch := first | assumption | exact Ne.symm (by assumption) | omega) only [hF1, ↓ZD, ZU, ne_eq, Zaa, Zab, false_implies, Zac, Zad, Zae, Zaf, Zag, Zah, Zai, Zaj, Zak, Zal, Zam, Zan, Zao, Zap, Zaq, Zar, Zas, Zat, Zau, Zav, Zaw, Zax, Zay, Zaz, Za0, Za1, Za2, Za3, Za4, Za5, Za6, Za7, Za8, Za9, Zba, Zbb, Zbc, Zbd, Zbe, Zbf, Zbg, Zbh, Zbi, Zbj, Zbk, Zbl, Zbm, Zbn, Zbo, Zbp, Zbq, Zbr, Zbs, Zbt, Zbu, Zbv, Zbw, Zbx, Zby, Zbz, Zb0, Zb1, Zb2, decide_true, decide_false, Zb3, Zb4, Zb5, Zb6, Zb7, Zb8, Zb9, Zca, Zcb, Zcc, Zcd, beq_self_eq_true, cond_true, cond_false, if_false, if_true, reduceIte, reduceCtorEq, not_true_eq_false, not_false_eq_true, true_and, and_true, forall_const, false_and, and_false, implies_true, Zce, Zcf, Zcg, Zch, Zci]
  refine NewB.of fun b2 hb2 hF2 => ?_
  simp (disch := first | assumption | exact Ne.symm (by assumption) | omega) only [hF1, hF2, ↓ZD, ZU, ne_eq, Zaa, Zab, false_implies, Zac, Zad, Zae, Zaf, Zag, Zah, Zai, Zaj, Zak, Zal, Zam, Zan, Zao, Zap, Zaq, Zar, Zas, Zat, Zau, Zav, Zaw, Zax, Zay, Zaz, Za0, Za1, Za2, Za3, Za4, Za5, Za6, Za7, Za8, Za9, Zba, Zbb, Zbc, Zbd, Zbe, Zbf, Zbg, Zbh, Zbi, Zbj, Zbk, Zbl, Zbm, Zbn, Zbo, Zbp, Zbq, Zbr, Zbs, Zbt, Zbu, Zbv, Zbw, Zbx, Zby, Zbz, Zb0, Zb1, Zb2, decide_true, decide_false, Zb3, Zb4, Zb5, Zb6, Zb7, Zb8, Zb9, Zca, Zcb, Zcc, Zcd, beq_self_eq_true, cond_true, cond_false, if_false, if_true, reduceIte, reduceCtorEq, not_true_eq_false, not_false_eq_true, true_and, and_true, forall_const, false_and, and_false, implies_true, Zce, Zcf, Zcg, Zch, Zci]
theorem pnames_pure (F : Base) (a1 b1 : Option Addr) (c1 d1 : Nat) (es fs : List At) (ga gb : Nat → List Value)
    (hl1 : es.length ≤ 9223372036854775807) (hl2 : fs.length ≤ 9223372036854775807) (h1 : HasA F a1 es ga) (h2 : HasA F b1 fs gb) :
    PureV Try.prog F 30 #[.slice a1 es.length c1, .slice b1 fs.length d1, (.func (.func 34) #[] #[])] (.bool (names es fs)) := by
  have h := pairs_pure F a1 b1 c1 d1 es fs ga gb 34 (fun _ _ => true) hl1 hl2 h1 h2 (fun i x y hx hy => ⟨34, #[], #[], rfl, callable34, f34_pure F x y _ _ (h1.2 i x hx) (h2.2 i y hy)⟩)
  simp only [Bool.and_true] at h
  exact h
theorem join_eq (k : Int) (n : List UInt8) (es : List Ty) (ats : List At) (k' : Int) (n' : List UInt8) (es' : List Ty) (ats' : List At) : join (.mk k n es ats) (.mk k' n' es' ats') =
    if below (.mk k n es ats) (.mk k' n' es' ats') then some (.mk k' n' es' ats') else if below (.mk k' n' es' ats') (.mk k n es ats) then some (.mk k n es ats)
    else if (decide (1 ≤ k) && decide (k ≤ 3)) && (decide (1 ≤ k') && decide (k' ≤ 3)) then some (.mk 3 [] [] [])
    else if k = 7 ∧ k' = 7 ∧ es.length = 1 ∧ es'.length = 1 then (joinH es es').map fun t => .mk 7 [] [t] []
    else if k = 8 ∧ k' = 8 ∧ names ats ats' = true then (joinA ats ats').map fun l => .mk 8 [] [] l else none := by rw [join]
set_option maxHeartbeats 8000000 in
theorem join_does (F : Base) {ca : List Value} {a : Ty} (ha : RepT F ca a) : ∀ cb b d, RepT F cb b → few a d = true → Does Try.prog F 20 #[.agg ca.toArray, .agg cb.toArray] [] (JoinR F (join a b)) := by
  induction ha with
  | mk k nm a1 c1 a2 c2 es ats g1 g2 hk hn hl1 hl2 hc1 hc2 h1 r1 h2 r2 i1 i2 =>
    intro cb b d hb hf
    have hba2 := below_pure F (RepT.mk k nm a1 c1 a2 c2 es ats g1 g2 hk hn hl1 hl2 hc1 hc2 h1 r1 h2 r2) _ _ hb
    have hba3 := below_pure F hb _ _ (RepT.mk k nm a1 c1 a2 c2 es ats g1 g2 hk hn hl1 hl2 hc1 hc2 h1 r1 h2 r2)
    have hra := RepT.mk k nm a1 c1 a2 c2 es ats g1 g2 hk hn hl1 hl2 hc1 hc2 h1 r1 h2 r2
    have hrb := hb
    obtain ⟨fl1, fl2, _, fe, fa⟩ := few_len hf
    cases hb with
    | mk k' nm' a1' c1' a2' c2' es' ats' g1' g2' hk' hn' hl1' hl2' hc1' hc2' h1' r1' h2' r2' =>
      rw [join_eq]
      generalize hbb : below (.mk k nm es ats) (.mk k' nm' es' ats') = bb at *
      generalize hbc : below (.mk k' nm' es' ats') (.mk k nm es ats) = bc at *
      refine Does.shr (K := fun v H => ∃ Hc, (∀ e ∈ Hc, e ∈ H) ∧ JoinR F _ v Hc) ?_ (fun _ _ h => h)
      refine does_of_svc mixed Try.func20 low20 (Nat.le_of_ble_eq_true rfl) (fun w0 hw0 => ?_)
      simp (disch := first | assumption | exact Ne.symm (by assumption) | omega) only [fu20, ↓ZD, ZU, ne_eq, Zaa, Zab, false_implies, Zac, Zad, Zae, Zaf, Zag, Zah, Zai, Zaj, Zak, Zal, Zam, Zan, Zao, Zap, Zaq, Zar, Zas, Zat, Zau, Zav, Zaw, Zax, Zay, Zaz, Za0, Za1, Za2, Za3, Za4, Za5, Za6, Za7, Za8, Za9, Zba, Zbb, Zbc, Zbd, Zbe, Zbf, Zbg, Zbh, Zbi, Zbj, Zbk, Zbl, Zbm, Zbn, Zbo, Zbp, Zbq, Zbr, Zbs, Zbt, Zbu, Zbv, Zbw, Zbx, Zby, Zbz, Zb0, Zb1, Zb2, decide_true, decide_false, Zb3, Zb4, Zb5, Zb6, Zb7, Zb8, Zb9, Zca, Zcb, Zcc, Zcd, beq_self_eq_true, cond_true, cond_false, if_false, if_true, reduceIte, reduceCtorEq, not_true_eq_false, not_false_eq_true, true_and, and_true, forall_const, false_and, and_false, implies_true, Zce, Zcf, Zcg, Zch, Zci]
      refine NewB.of fun b1 hb1 hF1 => ?_
      simp (disch := first | assumption | exact Ne.symm (by assumption) | omega) only [hF1, ↓ZD, ZU, ne_eq, Zaa, Zab, false_implies, Zac, Zad, Zae, Zaf, Zag, Zah, Zai, Zaj, Zak, Zal, Zam, Zan, Zao, Zap, Zaq, Zar, Zas, Zat, Zau, Zav, Zaw, Zax, Zay, Zaz, Za0, Za1, Za2, Za3, Za4, Za5, Za6, Za7, Za8, Za9, Zba, Zbb, Zbc, Zbd, Zbe, Zbf, Zbg, Zbh, Zbi, Zbj, Zbk, Zbl, Zbm, Zbn, Zbo, Zbp, Zbq, Zbr, Zbs, Zbt, Zbu, Zbv, Zbw, Zbx, Zby, Zbz, Zb0, Zb1, Zb2, decide_true, decide_false, Zb3, Zb4, Zb5, Zb6, Zb7, Zb8, Zb9, Zca, Zcb, Zcc, Zcd, beq_self_eq_true, cond_true, cond_false, if_false, if_true, reduceIte, reduceCtorEq, not_true_eq_false, not_false_eq_true, true_and, and_true, forall_const, false_and, and_false, implies_true, Zce, Zcf, Zcg, Zch, Zci]
      refine NewB.of fun b2 hb2 hF2 => ?_
      simp only [List.forall_mem_cons] at hb2
      simp (disch := first | assumption | exact Ne.symm (by assumption) | omega) only [hF1, hF2, ↓ZD, ZU, ne_eq, Zaa, Zab, false_implies, Zac, Zad, Zae, Zaf, Zag, Zah, Zai, Zaj, Zak, Zal, Zam, Zan, Zao, Zap, Zaq, Zar, Zas, Zat, Zau, Zav, Zaw, Zax, Zay, Zaz, Za0, Za1, Za2, Za3, Za4, Za5, Za6, Za7, Za8, Za9, Zba, Zbb, Zbc, Zbd, Zbe, Zbf, Zbg, Zbh, Zbi, Zbj, Zbk, Zbl, Zbm, Zbn, Zbo, Zbp, Zbq, Zbr, Zbs, Zbt, Zbu, Zbv, Zbw, Zbx, Zby, Zbz, Zb0, Zb1, Zb2, decide_true, decide_false, Zb3, Zb4, Zb5, Zb6, Zb7, Zb8, Zb9, Zca, Zcb, Zcc, Zcd, beq_self_eq_true, cond_true, cond_false, if_false, if_true, reduceIte, reduceCtorEq, not_true_eq_false, not_false_eq_true, true_and, and_true, forall_const, false_and, and_false, implies_true, Zce, Zcf, Zcg, Zch, Zci]
      refine NewB.of fun b3 hb3 hF3 => ?_
      simp only [List.forall_mem_cons] at hb3
      simp (disch := first | assumption | exact Ne.symm (by assumption) | omega) only [hF1, hF2, hF3, ↓ZD, ZU, ne_eq, Zaa, Zab, false_implies, Zac, Zad, Zae, Zaf, Zag, Zah, Zai, Zaj, Zak, Zal, Zam, Zan, Zao, Zap, Zaq, Zar, Zas, Zat, Zau, Zav, Zaw, Zax, Zay, Zaz, Za0, Za1, Za2, Za3, Za4, Za5, Za6, Za7, Za8, Za9, Zba, Zbb, Zbc, Zbd, Zbe, Zbf, Zbg, Zbh, Zbi, Zbj, Zbk, Zbl, Zbm, Zbn, Zbo, Zbp, Zbq, Zbr, Zbs, Zbt, Zbu, Zbv, Zbw, Zbx, Zby, Zbz, Zb0, Zb1, Zb2, decide_true, decide_false, Zb3, Zb4, Zb5, Zb6, Zb7, Zb8, Zb9, Zca, Zcb, Zcc, Zcd, beq_self_eq_true, cond_true, cond_false, if_false, if_true, reduceIte, reduceCtorEq, not_true_eq_false, not_false_eq_true, true_and, and_true, forall_const, false_and, and_false, implies_true, Zce, Zcf, Zcg, Zch, Zci]
      refine CallE.pure hba2 ?_
      simp (disch := first | assumption | exact Ne.symm (by assumption) | omega) only [hF1, hF2, hF3, ↓ZD, ZU, ne_eq, Zaa, Zab, false_implies, Zac, Zad, Zae, Zaf, Zag, Zah, Zai, Zaj, Zak, Zal, Zam, Zan, Zao, Zap, Zaq, Zar, Zas, Zat, Zau, Zav, Zaw, Zax, Zay, Zaz, Za0, Za1, Za2, Za3, Za4, Za5, Za6, Za7, Za8, Za9, Zba, Zbb, Zbc, Zbd, Zbe, Zbf, Zbg, Zbh, Zbi, Zbj, Zbk, Zbl, Zbm, Zbn, Zbo, Zbp, Zbq, Zbr, Zbs, Zbt, Zbu, Zbv, Zbw, Zbx, Zby, Zbz, Zb0, Zb1, Zb2, decide_true, decide_false, Zb3, Zb4, Zb5, Zb6, Zb7, Zb8, Zb9, Zca, Zcb, Zcc, Zcd, beq_self_eq_true, cond_true, cond_false, if_false, if_true, reduceIte, reduceCtorEq, not_true_eq_false, not_false_eq_true, true_and, and_true, forall_const, false_and, and_false, implies_true, Zce, Zcf, Zcg, Zch, Zci]
      refine ⟨fun hx => ?_, fun hx => ?_⟩
      · subst hx
        exact ⟨[], by simp, _, _, rfl, rfl, hrb.mono le_up, Okh.nil⟩
      subst hx
      refine CallE.pure hba3 ?_
      simp (disch := first | assumption | exact Ne.symm (by assumption) | omega) only [hF1, hF2, hF3, ↓ZD, ZU, ne_eq, Zaa, Zab, false_implies, Zac, Zad, Zae, Zaf, Zag, Zah, Zai, Zaj, Zak, Zal, Zam, Zan, Zao, Zap, Zaq, Zar, Zas, Zat, Zau, Zav, Zaw, Zax, Zay, Zaz, Za0, Za1, Za2, Za3, Za4, Za5, Za6, Za7, Za8, Za9, Zba, Zbb, Zbc, Zbd, Zbe, Zbf, Zbg, Zbh, Zbi, Zbj, Zbk, Zbl, Zbm, Zbn, Zbo, Zbp, Zbq, Zbr, Zbs, Zbt, Zbu, Zbv, Zbw, Zbx, Zby, Zbz, Zb0, Zb1, Zb2, decide_true, decide_false, Zb3, Zb4, Zb5, Zb6, Zb7, Zb8, Zb9, Zca, Zcb, Zcc, Zcd, beq_self_eq_true, cond_true, cond_false, if_false, if_true, reduceIte, reduceCtorEq, not_true_eq_false, not_false_eq_true, true_and, and_true, forall_const, false_and, and_false, implies_true, Zce, Zcf, Zcg, Zch, Zci]
      refine ⟨fun hx => ?_, fun hx => ?_⟩
      · subst hx
        exact ⟨[], by simp, _, _, rfl, rfl, hra.mono le_up, Okh.nil⟩
      subst hx
      refine CallE.pure (truth_pure F k) ?_
      simp (disch := first | assumption | exact Ne.symm (by assumption) | omega) only [hF1, hF2, hF3, ↓ZD, ZU, ne_eq, Zaa, Zab, false_implies, Zac, Zad, Zae, Zaf, Zag, Zah, Zai, Zaj, Zak, Zal, Zam, Zan, Zao, Zap, Zaq, Zar, Zas, Zat, Zau, Zav, Zaw, Zax, Zay, Zaz, Za0, Za1, Za2, Za3, Za4, Za5, Za6, Za7, Za8, Za9, Zba, Zbb, Zbc, Zbd, Zbe, Zbf, Zbg, Zbh, Zbi, Zbj, Zbk, Zbl, Zbm, Zbn, Zbo, Zbp, Zbq, Zbr, Zbs, Zbt, Zbu, Zbv, Zbw, Zbx, Zby, Zbz, Zb0, Zb1, Zb2, decide_true, decide_false, Zb3, Zb4, Zb5, Zb6, Zb7, Zb8, Zb9, Zca, Zcb, Zcc, Zcd, beq_self_eq_true, cond_true, cond_false, if_false, if_true, reduceIte, reduceCtorEq, not_true_eq_false, not_false_eq_true, true_and, and_true, forall_const, false_and, and_false, implies_true, Zce, Zcf, Zcg, Zch, Zci]
      refine CallQ.of _ (fun _ => (truth_pure F k').up) ?_
      simp (disch := first | assumption | exact Ne.symm (by assumption) | omega) only [hF1, hF2, hF3, ↓ZD, ZU, ne_eq, Zaa, Zab, false_implies, Zac, Zad, Zae, Zaf, Zag, Zah, Zai, Zaj, Zak, Zal, Zam, Zan, Zao, Zap, Zaq, Zar, Zas, Zat, Zau, Zav, Zaw, Zax, Zay, Zaz, Za0, Za1, Za2, Za3, Za4, Za5, Za6, Za7, Za8, Za9, Zba, Zbb, Zbc, Zbd, Zbe, Zbf, Zbg, Zbh, Zbi, Zbj, Zbk, Zbl, Zbm, Zbn, Zbo, Zbp, Zbq, Zbr, Zbs, Zbt, Zbu, Zbv, Zbw, Zbx, Zby, Zbz, Zb0, Zb1, Zb2, decide_true, decide_false, Zb3, Zb4, Zb5, Zb6, Zb7, Zb8, Zb9, Zca, Zcb, Zcc, Zcd, beq_self_eq_true, cond_true, cond_false, if_false, if_true, reduceIte, reduceCtorEq, not_true_eq_false, not_false_eq_true, true_and, and_true, forall_const, false_and, and_false, implies_true, Zce, Zcf, Zcg, Zch, Zci]
      refine ⟨fun ht => ?_, fun ht => ?_⟩
      · rw [if_pos ht]
        exact ⟨[], by simp, _, _, rfl, rfl, RepT.mk 3 [] none 0 none 0 [] [] (fun _ => []) (fun _ => []) (by omega) (by simp) (by simp) (by simp) (by simp) (by simp) (by simp) (by simp) (by simp) (by simp), Okh.nil⟩
      rw [if_neg (by rw [ht]; simp)]
      refine ⟨fun hs => ?_, fun hs => ?_⟩
      · simp only [Bool.and_eq_true, beq_iff_eq] at hs
        obtain ⟨⟨⟨rfl, rfl⟩, he1⟩, he2⟩ := hs
        have he1 : es.length = 1 := by omega
        have he2 : es'.length = 1 := by omega
        rw [if_pos ⟨rfl, rfl, he1, he2⟩]
        obtain ⟨x, rfl⟩ := List.length_eq_one_iff.mp he1
        obtain ⟨y, rfl⟩ := List.length_eq_one_iff.mp he2
        rw [joinH]
        obtain ⟨ba, oa, rfl, hla⟩ := (h1 0 x rfl).ldn
        obtain ⟨bb, ob, rfl, hlb⟩ := (h1' 0 y rfl).ldn
        simp only [Nat.zero_mul, Nat.add_zero] at hla hlb
        have hc := i1 0 x rfl _ y (d + 1) (r1' 0 y rfl) (fe x List.mem_cons_self)
        refine TreeL.cut (α := Nat × List Value × Int × Hp) (fun z => JoinP F (join x y) z.2.1 z.2.2.1 z.2.2.2 ∧ F z.1 = none ∧ b3 ≠ z.1 ∧ ∀ e ∈ z.2.2.2, e.1 ≠ b3 ∧ e.1 ≠ z.1)
          (fun z => [(4, some (.pointer (some ⟨b3, 0, none⟩))), (6, some (.pointer (some ⟨z.1, 0, none⟩))), (7, some (.int .i64 z.2.2.1))])
          (fun z => (z.1, .cells z.2.1.toArray 25 (0, 0)) :: (b3, .cells #[.int .i64 0, .string (bs []), .slice none 0 0, .slice none 0 0] 25 (0, 0)) :: z.2.2.2) ?_ ?_
        · simp (disch := first | assumption | exact Ne.symm (by assumption) | omega) only [hF1, hF2, hF3, ↓hla, ↓hlb, Nat.zero_mul, Nat.add_zero, ↓ZD, ZU, ne_eq, Zaa, Zab, false_implies, Zac, Zad, Zae, Zaf, Zag, Zah, Zai, Zaj, Zak, Zal, Zam, Zan, Zao, Zap, Zaq, Zar, Zas, Zat, Zau, Zav, Zaw, Zax, Zay, Zaz, Za0, Za1, Za2, Za3, Za4, Za5, Za6, Za7, Za8, Za9, Zba, Zbb, Zbc, Zbd, Zbe, Zbf, Zbg, Zbh, Zbi, Zbj, Zbk, Zbl, Zbm, Zbn, Zbo, Zbp, Zbq, Zbr, Zbs, Zbt, Zbu, Zbv, Zbw, Zbx, Zby, Zbz, Zb0, Zb1, Zb2, decide_true, decide_false, Zb3, Zb4, Zb5, Zb6, Zb7, Zb8, Zb9, Zca, Zcb, Zcc, Zcd, beq_self_eq_true, cond_true, cond_false, if_false, if_true, reduceIte, reduceCtorEq, not_true_eq_false, not_false_eq_true, true_and, and_true, forall_const, false_and, and_false, implies_true, Zce, Zcf, Zcg, Zch, Zci]
          refine ⟨CallN.news (hc.up le_up) ?_, NewB.of fun b4 hb4 hF4 => ?_⟩
          · rintro v H' ⟨cs, er, rfl, hp⟩ hf' hd hn'
            obtain ⟨_, _, _, _, _, _, _, _, hcs⟩ := hp.form
            have hp' := hp
            rw [hcs] at hp
            rw [hcs]
            simp only [List.forall_mem_cons] at hd
            simp (disch := first | assumption | exact Ne.symm (by assumption) | omega) only [hF1, hF2, hF3, ↓ZD, ZU, ne_eq, Zaa, Zab, false_implies, Zac, Zad, Zae, Zaf, Zag, Zah, Zai, Zaj, Zak, Zal, Zam, Zan, Zao, Zap, Zaq, Zar, Zas, Zat, Zau, Zav, Zaw, Zax, Zay, Zaz, Za0, Za1, Za2, Za3, Za4, Za5, Za6, Za7, Za8, Za9, Zba, Zbb, Zbc, Zbd, Zbe, Zbf, Zbg, Zbh, Zbi, Zbj, Zbk, Zbl, Zbm, Zbn, Zbo, Zbp, Zbq, Zbr, Zbs, Zbt, Zbu, Zbv, Zbw, Zbx, Zby, Zbz, Zb0, Zb1, Zb2, decide_true, decide_false, Zb3, Zb4, Zb5, Zb6, Zb7, Zb8, Zb9, Zca, Zcb, Zcc, Zcd, beq_self_eq_true, cond_true, cond_false, if_false, if_true, reduceIte, reduceCtorEq, not_true_eq_false, not_false_eq_true, true_and, and_true, forall_const, false_and, and_false, implies_true, Zce, Zcf, Zcg, Zch, Zci]
            refine NewB.of fun b4 hb4 hF4 => ?_
            simp only [List.forall_mem_cons] at hb4
            have hup : ∀ o, upd H' b4 o = H' := fun o => upd_new hb4.2.2.2
            simp (disch := first | assumption | exact Ne.symm (by assumption) | omega) only [hF1, hF2, hF3, hF4, hup, ↓ZD, ZU, ne_eq, Zaa, Zab, false_implies, Zac, Zad, Zae, Zaf, Zag, Zah, Zai, Zaj, Zak, Zal, Zam, Zan, Zao, Zap, Zaq, Zar, Zas, Zat, Zau, Zav, Zaw, Zax, Zay, Zaz, Za0, Za1, Za2, Za3, Za4, Za5, Za6, Za7, Za8, Za9, Zba, Zbb, Zbc, Zbd, Zbe, Zbf, Zbg, Zbh, Zbi, Zbj, Zbk, Zbl, Zbm, Zbn, Zbo, Zbp, Zbq, Zbr, Zbs, Zbt, Zbu, Zbv, Zbw, Zbx, Zby, Zbz, Zb0, Zb1, Zb2, decide_true, decide_false, Zb3, Zb4, Zb5, Zb6, Zb7, Zb8, Zb9, Zca, Zcb, Zcc, Zcd, beq_self_eq_true, cond_true, cond_false, if_false, if_true, reduceIte, reduceCtorEq, not_true_eq_false, not_false_eq_true, true_and, and_true, forall_const, false_and, and_false, implies_true, Zce, Zcf, Zcg, Zch, Zci]
            refine CutK.on (b4, _, er, H') ⟨hp, hF4, hb4.1, fun e he => ⟨hd.1 e he, hb4.2.2.2 e he⟩⟩ (by (simp only [Le_nil, Le_cons]; simp (disch := first | assumption | exact Ne.symm (by assumption) | omega) only [↓ZD, ZU, ne_eq, Zaa, Zab, false_implies, Zac, Zad, Zae, Zaf, Zag, Zah, Zai, Zaj, Zak, Zal, Zam, Zan, Zao, Zap, Zaq, Zar, Zas, Zat, Zau, Zav, Zaw, Zax, Zay, Zaz, Za0, Za1, Za2, Za3, Za4, Za5, Za6, Za7, Za8, Za9, Zba, Zbb, Zbc, Zbd, Zbe, Zbf, Zbg, Zbh, Zbi, Zbj, Zbk, Zbl, Zbm, Zbn, Zbo, Zbp, Zbq, Zbr, Zbs, Zbt, Zbu, Zbv, Zbw, Zbx, Zby, Zbz, Zb0, Zb1, Zb2, decide_true, decide_false, Zb3, Zb4, Zb5, Zb6, Zb7, Zb8, Zb9, Zca, Zcb, Zcc, Zcd, beq_self_eq_true, cond_true, cond_false, if_false, if_true, reduceIte, reduceCtorEq, not_true_eq_false, not_false_eq_true, true_and, and_true, forall_const, false_and, and_false, implies_true, Zce, Zcf, Zcg, Zch, Zci]; try trivial)) ⟨by simp (disch := first | assumption | exact Ne.symm (by assumption) | omega) only [↓ZD, ZU, ne_eq, Zaa, Zab, false_implies, Zac, Zad, Zae, Zaf, Zag, Zah, Zai, Zaj, Zak, Zal, Zam, Zan, Zao, Zap, Zaq, Zar, Zas, Zat, Zau, Zav, Zaw, Zax, Zay, Zaz, Za0, Za1, Za2, Za3, Za4, Za5, Za6, Za7, Za8, Za9, Zba, Zbb, Zbc, Zbd, Zbe, Zbf, Zbg, Zbh, Zbi, Zbj, Zbk, Zbl, Zbm, Zbn, Zbo, Zbp, Zbq, Zbr, Zbs, Zbt, Zbu, Zbv, Zbw, Zbx, Zby, Zbz, Zb0, Zb1, Zb2, decide_true, decide_false, Zb3, Zb4, Zb5, Zb6, Zb7, Zb8, Zb9, Zca, Zcb, Zcc, Zcd, beq_self_eq_true, cond_true, cond_false, if_false, if_true, reduceIte, reduceCtorEq, not_true_eq_false, not_false_eq_true, true_and, and_true, forall_const, false_and, and_false, implies_true, Zce, Zcf, Zcg, Zch, Zci], by simp (disch := first | assumption | exact Ne.symm (by assumption) | omega) only [↓ZD, ZU, ne_eq, Zaa, Zab, false_implies, Zac, Zad, Zae, Zaf, Zag, Zah, Zai, Zaj, Zak, Zal, Zam, Zan, Zao, Zap, Zaq, Zar, Zas, Zat, Zau, Zav, Zaw, Zax, Zay, Zaz, Za0, Za1, Za2, Za3, Za4, Za5, Za6, Za7, Za8, Za9, Zba, Zbb, Zbc, Zbd, Zbe, Zbf, Zbg, Zbh, Zbi, Zbj, Zbk, Zbl, Zbm, Zbn, Zbo, Zbp, Zbq, Zbr, Zbs, Zbt, Zbu, Zbv, Zbw, Zbx, Zby, Zbz, Zb0, Zb1, Zb2, decide_true, decide_false, Zb3, Zb4, Zb5, Zb6, Zb7, Zb8, Zb9, Zca, Zcb, Zcc, Zcd, beq_self_eq_true, cond_true, cond_false, if_false, if_true, reduceIte, reduceCtorEq, not_true_eq_false, not_false_eq_true, true_and, and_true, forall_const, false_and, and_false, implies_true, Zce, Zcf, Zcg, Zch, Zci], HLe.of ?_⟩
            refine Okh.lk (A := [_, _, _, _]) hp.ok ?_
            simp only [List.forall_mem_cons]
            exact ⟨hb4.2.2.2, hd⟩
          · simp only [List.forall_mem_cons] at hb4
            simp (disch := first | assumption | exact Ne.symm (by assumption) | omega) only [hF1, hF2, hF3, hF4, ↓ZD, ZU, ne_eq, Zaa, Zab, false_implies, Zac, Zad, Zae, Zaf, Zag, Zah, Zai, Zaj, Zak, Zal, Zam, Zan, Zao, Zap, Zaq, Zar, Zas, Zat, Zau, Zav, Zaw, Zax, Zay, Zaz, Za0, Za1, Za2, Za3, Za4, Za5, Za6, Za7, Za8, Za9, Zba, Zbb, Zbc, Zbd, Zbe, Zbf, Zbg, Zbh, Zbi, Zbj, Zbk, Zbl, Zbm, Zbn, Zbo, Zbp, Zbq, Zbr, Zbs, Zbt, Zbu, Zbv, Zbw, Zbx, Zby, Zbz, Zb0, Zb1, Zb2, decide_true, decide_false, Zb3, Zb4, Zb5, Zb6, Zb7, Zb8, Zb9, Zca, Zcb, Zcc, Zcd, beq_self_eq_true, cond_true, cond_false, if_false, if_true, reduceIte, reduceCtorEq, not_true_eq_false, not_false_eq_true, true_and, and_true, forall_const, false_and, and_false, implies_true, Zce, Zcf, Zcg, Zch, Zci]
            refine CallN.news (hc.up le_up) ?_
            rintro v H' ⟨cs, er, rfl, hp⟩ hf' hd hn'
            obtain ⟨_, _, _, _, _, _, _, _, hcs⟩ := hp.form
            rw [hcs] at hp
            rw [hcs]
            simp only [List.forall_mem_cons] at hd
            have hup : ∀ o, upd H' b4 o = H' := fun o => upd_new hd.1
            simp (disch := first | assumption | exact Ne.symm (by assumption) | omega) only [hF1, hF2, hF3, hF4, hup, ↓ZD, ZU, ne_eq, Zaa, Zab, false_implies, Zac, Zad, Zae, Zaf, Zag, Zah, Zai, Zaj, Zak, Zal, Zam, Zan, Zao, Zap, Zaq, Zar, Zas, Zat, Zau, Zav, Zaw, Zax, Zay, Zaz, Za0, Za1, Za2, Za3, Za4, Za5, Za6, Za7, Za8, Za9, Zba, Zbb, Zbc, Zbd, Zbe, Zbf, Zbg, Zbh, Zbi, Zbj, Zbk, Zbl, Zbm, Zbn, Zbo, Zbp, Zbq, Zbr, Zbs, Zbt, Zbu, Zbv, Zbw, Zbx, Zby, Zbz, Zb0, Zb1, Zb2, decide_true, decide_false, Zb3, Zb4, Zb5, Zb6, Zb7, Zb8, Zb9, Zca, Zcb, Zcc, Zcd, beq_self_eq_true, cond_true, cond_false, if_false, if_true, reduceIte, reduceCtorEq, not_true_eq_false, not_false_eq_true, true_and, and_true, forall_const, false_and, and_false, implies_true, Zce, Zcf, Zcg, Zch, Zci]
            refine CutK.on (b4, _, er, H') ⟨hp, hF4, hb4.1, fun e he => ⟨hd.2.1 e he, hd.1 e he⟩⟩ (by (simp only [Le_nil, Le_cons]; simp (disch := first | assumption | exact Ne.symm (by assumption) | omega) only [↓ZD, ZU, ne_eq, Zaa, Zab, false_implies, Zac, Zad, Zae, Zaf, Zag, Zah, Zai, Zaj, Zak, Zal, Zam, Zan, Zao, Zap, Zaq, Zar, Zas, Zat, Zau, Zav, Zaw, Zax, Zay, Zaz, Za0, Za1, Za2, Za3, Za4, Za5, Za6, Za7, Za8, Za9, Zba, Zbb, Zbc, Zbd, Zbe, Zbf, Zbg, Zbh, Zbi, Zbj, Zbk, Zbl, Zbm, Zbn, Zbo, Zbp, Zbq, Zbr, Zbs, Zbt, Zbu, Zbv, Zbw, Zbx, Zby, Zbz, Zb0, Zb1, Zb2, decide_true, decide_false, Zb3, Zb4, Zb5, Zb6, Zb7, Zb8, Zb9, Zca, Zcb, Zcc, Zcd, beq_self_eq_true, cond_true, cond_false, if_false, if_true, reduceIte, reduceCtorEq, not_true_eq_false, not_false_eq_true, true_and, and_true, forall_const, false_and, and_false, implies_true, Zce, Zcf, Zcg, Zch, Zci]; try trivial)) ⟨by simp (disch := first | assumption | exact Ne.symm (by assumption) | omega) only [↓ZD, ZU, ne_eq, Zaa, Zab, false_implies, Zac, Zad, Zae, Zaf, Zag, Zah, Zai, Zaj, Zak, Zal, Zam, Zan, Zao, Zap, Zaq, Zar, Zas, Zat, Zau, Zav, Zaw, Zax, Zay, Zaz, Za0, Za1, Za2, Za3, Za4, Za5, Za6, Za7, Za8, Za9, Zba, Zbb, Zbc, Zbd, Zbe, Zbf, Zbg, Zbh, Zbi, Zbj, Zbk, Zbl, Zbm, Zbn, Zbo, Zbp, Zbq, Zbr, Zbs, Zbt, Zbu, Zbv, Zbw, Zbx, Zby, Zbz, Zb0, Zb1, Zb2, decide_true, decide_false, Zb3, Zb4, Zb5, Zb6, Zb7, Zb8, Zb9, Zca, Zcb, Zcc, Zcd, beq_self_eq_true, cond_true, cond_false, if_false, if_true, reduceIte, reduceCtorEq, not_true_eq_false, not_false_eq_true, true_and, and_true, forall_const, false_and, and_false, implies_true, Zce, Zcf, Zcg, Zch, Zci], by simp (disch := first | assumption | exact Ne.symm (by assumption) | omega) only [↓ZD, ZU, ne_eq, Zaa, Zab, false_implies, Zac, Zad, Zae, Zaf, Zag, Zah, Zai, Zaj, Zak, Zal, Zam, Zan, Zao, Zap, Zaq, Zar, Zas, Zat, Zau, Zav, Zaw, Zax, Zay, Zaz, Za0, Za1, Za2, Za3, Za4, Za5, Za6, Za7, Za8, Za9, Zba, Zbb, Zbc, Zbd, Zbe, Zbf, Zbg, Zbh, Zbi, Zbj, Zbk, Zbl, Zbm, Zbn, Zbo, Zbp, Zbq, Zbr, Zbs, Zbt, Zbu, Zbv, Zbw, Zbx, Zby, Zbz, Zb0, Zb1, Zb2, decide_true, decide_false, Zb3, Zb4, Zb5, Zb6, Zb7, Zb8, Zb9, Zca, Zcb, Zcc, Zcd, beq_self_eq_true, cond_true, cond_false, if_false, if_true, reduceIte, reduceCtorEq, not_true_eq_false, not_false_eq_true, true_and, and_true, forall_const, false_and, and_false, implies_true, Zce, Zcf, Zcg, Zch, Zci], HLe.of ?_⟩
            refine Okh.lk (A := [_, _, _, _]) hp.ok ?_
            simp only [List.forall_mem_cons]
            exact hd
        · rintro ⟨b4, cs, er, H'⟩ ⟨hp, hF4, hb34, hd⟩
          simp only at hp hF4 hb34 hd
          obtain ⟨q1, q2, q3, q4, q5, q6, q7, q8, hcs⟩ := hp.form
          rw [hcs] at hp
          rw [hcs]
          simp (disch := first | assumption | exact Ne.symm (by assumption) | omega) only [hF3, hF4, ↓ZD, ZU, ne_eq, Zaa, Zab, false_implies, Zac, Zad, Zae, Zaf, Zag, Zah, Zai, Zaj, Zak, Zal, Zam, Zan, Zao, Zap, Zaq, Zar, Zas, Zat, Zau, Zav, Zaw, Zax, Zay, Zaz, Za0, Za1, Za2, Za3, Za4, Za5, Za6, Za7, Za8, Za9, Zba, Zbb, Zbc, Zbd, Zbe, Zbf, Zbg, Zbh, Zbi, Zbj, Zbk, Zbl, Zbm, Zbn, Zbo, Zbp, Zbq, Zbr, Zbs, Zbt, Zbu, Zbv, Zbw, Zbx, Zby, Zbz, Zb0, Zb1, Zb2, decide_true, decide_false, Zb3, Zb4, Zb5, Zb6, Zb7, Zb8, Zb9, Zca, Zcb, Zcc, Zcd, beq_self_eq_true, cond_true, cond_false, if_false, if_true, reduceIte, reduceCtorEq, not_true_eq_false, not_false_eq_true, true_and, and_true, forall_const, false_and, and_false, implies_true, Zce, Zcf, Zcg, Zch, Zci]
          refine ⟨fun he => ?_, fun he => ?_⟩
          · refine ⟨[], by simp, _, _, rfl, ?_⟩
            cases hj : join x y with
            | none => rw [hj] at hp; exact ⟨rfl, hp.2.1, rfl⟩
            | some u => rw [hj] at hp; rw [hp.1] at he; cases he
          · cases hj : join x y with
            | none => rw [hj] at hp; rw [hp.2.1] at he; cases he
            | some u =>
              rw [hj] at hp
              refine NewB.of fun b5 hb5 hF5 => ?_
              simp only [List.forall_mem_cons] at hb5
              have hup : ∀ o, upd H' b3 o = H' := fun o => upd_new fun e he => (hd e he).1
              simp (disch := first | assumption | exact Ne.symm (by assumption) | omega) only [hF3, hF4, hF5, hup, ↓ZD, ZU, ne_eq, Zaa, Zab, false_implies, Zac, Zad, Zae, Zaf, Zag, Zah, Zai, Zaj, Zak, Zal, Zam, Zan, Zao, Zap, Zaq, Zar, Zas, Zat, Zau, Zav, Zaw, Zax, Zay, Zaz, Za0, Za1, Za2, Za3, Za4, Za5, Za6, Za7, Za8, Za9, Zba, Zbb, Zbc, Zbd, Zbe, Zbf, Zbg, Zbh, Zbi, Zbj, Zbk, Zbl, Zbm, Zbn, Zbo, Zbp, Zbq, Zbr, Zbs, Zbt, Zbu, Zbv, Zbw, Zbx, Zby, Zbz, Zb0, Zb1, Zb2, decide_true, decide_false, Zb3, Zb4, Zb5, Zb6, Zb7, Zb8, Zb9, Zca, Zcb, Zcc, Zcd, beq_self_eq_true, cond_true, cond_false, if_false, if_true, reduceIte, reduceCtorEq, not_true_eq_false, not_false_eq_true, true_and, and_true, forall_const, false_and, and_false, implies_true, Zce, Zcf, Zcg, Zch, Zci]
              refine ⟨(b5, .cells #[.int .i64 q1, .string (bs q2), .slice q3 q4 q5, .slice q6 q7 q8] 25 (0, 0)) :: H', ?_, _, _, rfl, rfl, rep_set (by simp [rdObj, hF5, lk]) (hp.2.1.mono fun b o h => ?_), hp.2.2.cons hb5.2.2⟩
              · intro e he
                rcases List.mem_cons.1 he with rfl | he
                · simp
                · simp [he]
              · exact rdObj_app (A := [(b5, _)]) (by simp only [List.forall_mem_cons]; exact ⟨hb5.2.2, fun e he => by cases he⟩) h
      · have hs' : ¬(k = 7 ∧ k' = 7 ∧ es.length = 1 ∧ es'.length = 1) := by
          rintro ⟨rfl, rfl, e1, e2⟩
          rw [e1, e2] at hs; simp at hs
        rw [if_neg hs']
        refine CallQ.of _ (fun _ => (pnames_pure F a2 a2' c2 c2' ats ats' g2 g2' hl2 hl2' ⟨h2, r2⟩ ⟨h2', r2'⟩).up) ?_
        simp (disch := first | assumption | exact Ne.symm (by assumption) | omega) only [hF1, hF2, hF3, ↓ZD, ZU, ne_eq, Zaa, Zab, false_implies, Zac, Zad, Zae, Zaf, Zag, Zah, Zai, Zaj, Zak, Zal, Zam, Zan, Zao, Zap, Zaq, Zar, Zas, Zat, Zau, Zav, Zaw, Zax, Zay, Zaz, Za0, Za1, Za2, Za3, Za4, Za5, Za6, Za7, Za8, Za9, Zba, Zbb, Zbc, Zbd, Zbe, Zbf, Zbg, Zbh, Zbi, Zbj, Zbk, Zbl, Zbm, Zbn, Zbo, Zbp, Zbq, Zbr, Zbs, Zbt, Zbu, Zbv, Zbw, Zbx, Zby, Zbz, Zb0, Zb1, Zb2, decide_true, decide_false, Zb3, Zb4, Zb5, Zb6, Zb7, Zb8, Zb9, Zca, Zcb, Zcc, Zcd, beq_self_eq_true, cond_true, cond_false, if_false, if_true, reduceIte, reduceCtorEq, not_true_eq_false, not_false_eq_true, true_and, and_true, forall_const, false_and, and_false, implies_true, Zce, Zcf, Zcg, Zch, Zci]
        refine ⟨fun hr => ?_, fun hr => ?_⟩
        · simp only [Bool.and_eq_true, beq_iff_eq] at hr
          obtain ⟨⟨rfl, rfl⟩, hnn⟩ := hr
          rw [if_pos ⟨rfl, rfl, hnn⟩]
          have hlen : ats.length = ats'.length := all2_len hnn
          refine NewB.of fun b4 hb4 hF4 => ?_
          simp only [List.forall_mem_cons] at hb4
          simp (disch := first | assumption | exact Ne.symm (by assumption) | omega) only [hF1, hF2, hF3, hF4, ↓ZD, ZU, ne_eq, Zaa, Zab, false_implies, Zac, Zad, Zae, Zaf, Zag, Zah, Zai, Zaj, Zak, Zal, Zam, Zan, Zao, Zap, Zaq, Zar, Zas, Zat, Zau, Zav, Zaw, Zax, Zay, Zaz, Za0, Za1, Za2, Za3, Za4, Za5, Za6, Za7, Za8, Za9, Zba, Zbb, Zbc, Zbd, Zbe, Zbf, Zbg, Zbh, Zbi, Zbj, Zbk, Zbl, Zbm, Zbn, Zbo, Zbp, Zbq, Zbr, Zbs, Zbt, Zbu, Zbv, Zbw, Zbx, Zby, Zbz, Zb0, Zb1, Zb2, decide_true, decide_false, Zb3, Zb4, Zb5, Zb6, Zb7, Zb8, Zb9, Zca, Zcb, Zcc, Zcd, beq_self_eq_true, cond_true, cond_false, if_false, if_true, reduceIte, reduceCtorEq, not_true_eq_false, not_false_eq_true, true_and, and_true, forall_const, false_and, and_false, implies_true, Zce, Zcf, Zcg, Zch, Zci]
          refine LoopL.inv (α := Nat × List At × List Value × Value × Hp × Hp) (fun z => z.1 ≤ ats.length ∧ z.2.1.length = z.1 ∧ joinA ats ats' = (joinA (ats.drop z.1) (ats'.drop z.1)).map (z.2.1 ++ ·) ∧ OwnS F 6 30 z.2.2.1 z.1 z.2.2.2.1 z.2.2.2.2.1 ∧
              RowsA (rdObj F z.2.2.2.2.2) z.2.1 z.2.2.1 ∧ Okh z.2.2.2.2.2 ∧ (∀ e ∈ z.2.2.2.2.1 ++ z.2.2.2.2.2, e.1 ≠ b4 ∧ e.1 ≠ b3 ∧ e.1 ≠ b2 ∧ e.1 ≠ b1) ∧ ∀ e' ∈ z.2.2.2.2.1, ∀ e ∈ z.2.2.2.2.2, e.1 ≠ e'.1)
            (fun z => [(2, some (.pointer (some ⟨b1, 0, none⟩))), (3, some (.pointer (some ⟨b2, 0, none⟩))), (4, some (.pointer (some ⟨b3, 0, none⟩))), (8, some (.pointer (some ⟨b4, 0, none⟩))), (93, some (.int .i64 ats.length)), (94, some (.int .i64 z.1))])
            (fun z => (b4, .cells #[.int .i64 8, .string (bs []), .slice none 0 0, z.2.2.2.1] 25 (0, 0)) :: (b3, .cells #[.int .i64 0, .string (bs []), .slice none 0 0, .slice none 0 0] 25 (0, 0)) ::
              (b2, .cells #[.int .i64 8, .string (bs nm'), .slice a1' es'.length c1', .slice a2' ats'.length c2'] 25 (0, 0)) :: (b1, .cells #[.int .i64 8, .string (bs nm), .slice a1 es.length c1, .slice a2 ats.length c2] 25 (0, 0)) :: (z.2.2.2.2.1 ++ z.2.2.2.2.2))
            (fun z => ats.length - z.1) (0, [], [], .slice none 0 0, [], []) ⟨Nat.zero_le _, rfl, by simp, .nil, fun j x h => by simp at h, Okh.nil, by simp, by simp⟩ (by (simp only [Le_nil, Le_cons]; simp (disch := first | assumption | exact Ne.symm (by assumption) | omega) only [↓ZD, ZU, ne_eq, Zaa, Zab, false_implies, Zac, Zad, Zae, Zaf, Zag, Zah, Zai, Zaj, Zak, Zal, Zam, Zan, Zao, Zap, Zaq, Zar, Zas, Zat, Zau, Zav, Zaw, Zax, Zay, Zaz, Za0, Za1, Za2, Za3, Za4, Za5, Za6, Za7, Za8, Za9, Zba, Zbb, Zbc, Zbd, Zbe, Zbf, Zbg, Zbh, Zbi, Zbj, Zbk, Zbl, Zbm, Zbn, Zbo, Zbp, Zbq, Zbr, Zbs, Zbt, Zbu, Zbv, Zbw, Zbx, Zby, Zbz, Zb0, Zb1, Zb2, decide_true, decide_false, Zb3, Zb4, Zb5, Zb6, Zb7, Zb8, Zb9, Zca, Zcb, Zcc, Zcd, beq_self_eq_true, cond_true, cond_false, if_false, if_true, reduceIte, reduceCtorEq, not_true_eq_false, not_false_eq_true, true_and, and_true, forall_const, false_and, and_false, implies_true, Zce, Zcf, Zcg, Zch, Zci]; try trivial)) (by simp only [HLe_cons, List.nil_append]; simp (disch := first | assumption | exact Ne.symm (by assumption) | omega) only [HLe_nil, ↓ZD, ZU, ne_eq, Zaa, Zab, false_implies, Zac, Zad, Zae, Zaf, Zag, Zah, Zai, Zaj, Zak, Zal, Zam, Zan, Zao, Zap, Zaq, Zar, Zas, Zat, Zau, Zav, Zaw, Zax, Zay, Zaz, Za0, Za1, Za2, Za3, Za4, Za5, Za6, Za7, Za8, Za9, Zba, Zbb, Zbc, Zbd, Zbe, Zbf, Zbg, Zbh, Zbi, Zbj, Zbk, Zbl, Zbm, Zbn, Zbo, Zbp, Zbq, Zbr, Zbs, Zbt, Zbu, Zbv, Zbw, Zbx, Zby, Zbz, Zb0, Zb1, Zb2, decide_true, decide_false, Zb3, Zb4, Zb5, Zb6, Zb7, Zb8, Zb9, Zca, Zcb, Zcc, Zcd, beq_self_eq_true, cond_true, cond_false, if_false, if_true, reduceIte, reduceCtorEq, not_true_eq_false, not_false_eq_true, true_and, and_true, forall_const, false_and, and_false, implies_true, Zce, Zcf, Zcg, Zch, Zci]) ?_
          rintro ⟨i, r, rows, v, Ho, Hx⟩ ⟨hi, hrl, hja, ho, hrw, hox, hap, had⟩
          simp only at hi hrl hja ho hrw hox hap had
          have hoh : Okh (Ho ++ Hx) := Okh.app (okh_own ho) hox had
          by_cases hlt : i < ats.length
          · have hd : decide ((i : Int) < (ats.length : Int)) = true := by simp; omega
            have hd' : decide ((i : Int) < (ats'.length : Int)) = true := by simp; omega
            have hlt' : i < ats'.length := by omega
            have gx := getA hlt
            have gy := getA hlt'
            have hc := i2 i _ gx _ _ (d + 1) (r2' i _ gy) (fa _ (List.mem_of_getElem? gx))
            have q1 := h2 i _ gx
            have q2 := h2' i _ gy
            have nx := hn.2 i _ gx
            have rx := r2 i _ gx
            have ry := r2' i _ gy
            rw [List.drop_eq_getElem_cons hlt, List.drop_eq_getElem_cons hlt'] at hja
            have ex : ats[i] = ats.getD i nilA := by simp [hlt]
            have ey : ats'[i] = ats'.getD i nilA := by simp [hlt']
            rw [ex, ey] at hja
            revert hc q1 q2 nx rx ry hja
            generalize ats.getD i nilA = x
            generalize ats'.getD i nilA = y
            generalize g2 i = cx
            generalize g2' i = cy
            intro hja hc q1 q2 nx rx ry
            obtain ⟨xn, xt, xo⟩ := x
            obtain ⟨yn, yt, yo⟩ := y
            obtain ⟨k1, m1, s1, t1, u1, s2, t2, u2, rfl⟩ := rx.form
            obtain ⟨k2, m2, s3, t3, u3, s4, t4, u4, rfl⟩ := ry.form
            obtain ⟨ba, oa, rfl, hla⟩ := q1.ldn
            obtain ⟨bb, ob, rfl, hlb⟩ := q2.ldn
            simp only [List.cons_append, List.nil_append] at hla hlb
            obtain ⟨_, _, _, _⟩ := hb4
            obtain ⟨_, _, _⟩ := hb3
            obtain ⟨_, _⟩ := hb2
            simp (disch := first | assumption | exact Ne.symm (by assumption) | omega) only [hF1, hF2, hF3, hF4, hd, ↓ZD, ZU, ne_eq, Zaa, Zab, false_implies, Zac, Zad, Zae, Zaf, Zag, Zah, Zai, Zaj, Zak, Zal, Zam, Zan, Zao, Zap, Zaq, Zar, Zas, Zat, Zau, Zav, Zaw, Zax, Zay, Zaz, Za0, Za1, Za2, Za3, Za4, Za5, Za6, Za7, Za8, Za9, Zba, Zbb, Zbc, Zbd, Zbe, Zbf, Zbg, Zbh, Zbi, Zbj, Zbk, Zbl, Zbm, Zbn, Zbo, Zbp, Zbq, Zbr, Zbs, Zbt, Zbu, Zbv, Zbw, Zbx, Zby, Zbz, Zb0, Zb1, Zb2, decide_true, decide_false, Zb3, Zb4, Zb5, Zb6, Zb7, Zb8, Zb9, Zca, Zcb, Zcc, Zcd, beq_self_eq_true, cond_true, cond_false, if_false, if_true, reduceIte, reduceCtorEq, not_true_eq_false, not_false_eq_true, true_and, and_true, forall_const, false_and, and_false, implies_true, Zce, Zcf, Zcg, Zch, Zci]
            refine TreeL.cut (α := Nat × Nat) (fun z => F z.1 = none ∧ F z.2 = none ∧ z.1 ≠ z.2 ∧ (b4 ≠ z.1 ∧ b3 ≠ z.1 ∧ b2 ≠ z.1 ∧ b1 ≠ z.1) ∧ (b4 ≠ z.2 ∧ b3 ≠ z.2 ∧ b2 ≠ z.2 ∧ b1 ≠ z.2) ∧ (∀ e ∈ Ho ++ Hx, e.1 ≠ z.1 ∧ e.1 ≠ z.2))
              (fun z => [(2, some (.pointer (some ⟨b1, 0, none⟩))), (3, some (.pointer (some ⟨b2, 0, none⟩))), (4, some (.pointer (some ⟨b3, 0, none⟩))), (8, some (.pointer (some ⟨b4, 0, none⟩))), (10, some (.pointer (some ⟨z.1, 0, none⟩))), (11, some (.pointer (some ⟨z.2, 0, none⟩))), (93, some (.int .i64 ats.length)), (94, some (.int .i64 i))])
              (fun z => (z.2, .cells #[.string (bs yn), .int .i64 k2, .string (bs m2), .slice s3 t3 u3, .slice s4 t4 u4, .bool yo] 30 (0, 0)) :: (z.1, .cells #[.string (bs xn), .int .i64 k1, .string (bs m1), .slice s1 t1 u1, .slice s2 t2 u2, .bool xo] 30 (0, 0)) ::
                (b4, .cells #[.int .i64 8, .string (bs []), .slice none 0 0, v] 25 (0, 0)) :: (b3, .cells #[.int .i64 0, .string (bs []), .slice none 0 0, .slice none 0 0] 25 (0, 0)) ::
                (b2, .cells #[.int .i64 8, .string (bs nm'), .slice a1' es'.length c1', .slice (some ⟨bb, ob, none⟩) ats'.length c2'] 25 (0, 0)) :: (b1, .cells #[.int .i64 8, .string (bs nm), .slice a1 es.length c1, .slice (some ⟨ba, oa, none⟩) ats.length c2] 25 (0, 0)) :: (Ho ++ Hx)) ?_ ?_
            · simp (disch := first | assumption | exact Ne.symm (by assumption) | omega) only [hF1, hF2, hF3, hF4, hd, ↓ZD, ZU, ne_eq, Zaa, Zab, false_implies, Zac, Zad, Zae, Zaf, Zag, Zah, Zai, Zaj, Zak, Zal, Zam, Zan, Zao, Zap, Zaq, Zar, Zas, Zat, Zau, Zav, Zaw, Zax, Zay, Zaz, Za0, Za1, Za2, Za3, Za4, Za5, Za6, Za7, Za8, Za9, Zba, Zbb, Zbc, Zbd, Zbe, Zbf, Zbg, Zbh, Zbi, Zbj, Zbk, Zbl, Zbm, Zbn, Zbo, Zbp, Zbq, Zbr, Zbs, Zbt, Zbu, Zbv, Zbw, Zbx, Zby, Zbz, Zb0, Zb1, Zb2, decide_true, decide_false, Zb3, Zb4, Zb5, Zb6, Zb7, Zb8, Zb9, Zca, Zcb, Zcc, Zcd, beq_self_eq_true, cond_true, cond_false, if_false, if_true, reduceIte, reduceCtorEq, not_true_eq_false, not_false_eq_true, true_and, and_true, forall_const, false_and, and_false, implies_true, Zce, Zcf, Zcg, Zch, Zci]
              repeat' (first | (refine conj.of (by omega) ?_; simp (disch := first | assumption | exact Ne.symm (by assumption) | omega) only [hF1, hF2, hF3, hF4, hd, hd', ↓hla, ↓hlb, Int.toNat_natCast, ↓ZD, ZU, ne_eq, Zaa, Zab, false_implies, Zac, Zad, Zae, Zaf, Zag, Zah, Zai, Zaj, Zak, Zal, Zam, Zan, Zao, Zap, Zaq, Zar, Zas, Zat, Zau, Zav, Zaw, Zax, Zay, Zaz, Za0, Za1, Za2, Za3, Za4, Za5, Za6, Za7, Za8, Za9, Zba, Zbb, Zbc, Zbd, Zbe, Zbf, Zbg, Zbh, Zbi, Zbj, Zbk, Zbl, Zbm, Zbn, Zbo, Zbp, Zbq, Zbr, Zbs, Zbt, Zbu, Zbv, Zbw, Zbx, Zby, Zbz, Zb0, Zb1, Zb2, decide_true, decide_false, Zb3, Zb4, Zb5, Zb6, Zb7, Zb8, Zb9, Zca, Zcb, Zcc, Zcd, beq_self_eq_true, cond_true, cond_false, if_false, if_true, reduceIte, reduceCtorEq, not_true_eq_false, not_false_eq_true, true_and, and_true, forall_const, false_and, and_false, implies_true, Zce, Zcf, Zcg, Zch, Zci]) | refine And.intro ?_ ?_)
              all_goals
                refine NewB.of fun p hp hFp => ?_
                simp only [List.forall_mem_cons] at hp
                obtain ⟨hp1, hp2, hp3, hp4, hp5⟩ := hp
                have hup : ∀ o, upd (Ho ++ Hx) p o = Ho ++ Hx := fun o => upd_new hp5
                simp (disch := first | assumption | exact Ne.symm (by assumption) | omega) only [hF1, hF2, hF3, hF4, hd, hd', ↓hla, ↓hlb, Int.toNat_natCast, hFp, hup, ↓ZD, ZU, ne_eq, Zaa, Zab, false_implies, Zac, Zad, Zae, Zaf, Zag, Zah, Zai, Zaj, Zak, Zal, Zam, Zan, Zao, Zap, Zaq, Zar, Zas, Zat, Zau, Zav, Zaw, Zax, Zay, Zaz, Za0, Za1, Za2, Za3, Za4, Za5, Za6, Za7, Za8, Za9, Zba, Zbb, Zbc, Zbd, Zbe, Zbf, Zbg, Zbh, Zbi, Zbj, Zbk, Zbl, Zbm, Zbn, Zbo, Zbp, Zbq, Zbr, Zbs, Zbt, Zbu, Zbv, Zbw, Zbx, Zby, Zbz, Zb0, Zb1, Zb2, decide_true, decide_false, Zb3, Zb4, Zb5, Zb6, Zb7, Zb8, Zb9, Zca, Zcb, Zcc, Zcd, beq_self_eq_true, cond_true, cond_false, if_false, if_true, reduceIte, reduceCtorEq, not_true_eq_false, not_false_eq_true, true_and, and_true, forall_const, false_and, and_false, implies_true, Zce, Zcf, Zcg, Zch, Zci]
              repeat' (first | (refine conj.of (by omega) ?_; simp (disch := first | assumption | exact Ne.symm (by assumption) | omega) only [hF1, hF2, hF3, hF4, hd, hd', ↓hla, ↓hlb, Int.toNat_natCast, ↓ZD, ZU, ne_eq, Zaa, Zab, false_implies, Zac, Zad, Zae, Zaf, Zag, Zah, Zai, Zaj, Zak, Zal, Zam, Zan, Zao, Zap, Zaq, Zar, Zas, Zat, Zau, Zav, Zaw, Zax, Zay, Zaz, Za0, Za1, Za2, Za3, Za4, Za5, Za6, Za7, Za8, Za9, Zba, Zbb, Zbc, Zbd, Zbe, Zbf, Zbg, Zbh, Zbi, Zbj, Zbk, Zbl, Zbm, Zbn, Zbo, Zbp, Zbq, Zbr, Zbs, Zbt, Zbu, Zbv, Zbw, Zbx, Zby, Zbz, Zb0, Zb1, Zb2, decide_true, decide_false, Zb3, Zb4, Zb5, Zb6, Zb7, Zb8, Zb9, Zca, Zcb, Zcc, Zcd, beq_self_eq_true, cond_true, cond_false, if_false, if_true, reduceIte, reduceCtorEq, not_true_eq_false, not_false_eq_true, true_and, and_true, forall_const, false_and, and_false, implies_true, Zce, Zcf, Zcg, Zch, Zci]) | refine And.intro ?_ ?_)
              all_goals
                refine NewB.of fun q hq hFq => ?_
                simp only [List.forall_mem_cons] at hq
                obtain ⟨hq0, hq1, hq2, hq3, hq4, hq5⟩ := hq
                have hup2 : ∀ o, upd (Ho ++ Hx) q o = Ho ++ Hx := fun o => upd_new hq5
                simp (disch := first | assumption | exact Ne.symm (by assumption) | omega) only [hF1, hF2, hF3, hF4, hd, hd', ↓hla, ↓hlb, Int.toNat_natCast, hFp, hup, hFq, hup2, ↓ZD, ZU, ne_eq, Zaa, Zab, false_implies, Zac, Zad, Zae, Zaf, Zag, Zah, Zai, Zaj, Zak, Zal, Zam, Zan, Zao, Zap, Zaq, Zar, Zas, Zat, Zau, Zav, Zaw, Zax, Zay, Zaz, Za0, Za1, Za2, Za3, Za4, Za5, Za6, Za7, Za8, Za9, Zba, Zbb, Zbc, Zbd, Zbe, Zbf, Zbg, Zbh, Zbi, Zbj, Zbk, Zbl, Zbm, Zbn, Zbo, Zbp, Zbq, Zbr, Zbs, Zbt, Zbu, Zbv, Zbw, Zbx, Zby, Zbz, Zb0, Zb1, Zb2, decide_true, decide_false, Zb3, Zb4, Zb5, Zb6, Zb7, Zb8, Zb9, Zca, Zcb, Zcc, Zcd, beq_self_eq_true, cond_true, cond_false, if_false, if_true, reduceIte, reduceCtorEq, not_true_eq_false, not_false_eq_true, true_and, and_true, forall_const, false_and, and_false, implies_true, Zce, Zcf, Zcg, Zch, Zci]
              repeat' (first | (refine conj.of (by omega) ?_; simp (disch := first | assumption | exact Ne.symm (by assumption) | omega) only [hF1, hF2, hF3, hF4, hd, hd', ↓hla, ↓hlb, Int.toNat_natCast, hFp, hup, hFq, hup2, ↓ZD, ZU, ne_eq, Zaa, Zab, false_implies, Zac, Zad, Zae, Zaf, Zag, Zah, Zai, Zaj, Zak, Zal, Zam, Zan, Zao, Zap, Zaq, Zar, Zas, Zat, Zau, Zav, Zaw, Zax, Zay, Zaz, Za0, Za1, Za2, Za3, Za4, Za5, Za6, Za7, Za8, Za9, Zba, Zbb, Zbc, Zbd, Zbe, Zbf, Zbg, Zbh, Zbi, Zbj, Zbk, Zbl, Zbm, Zbn, Zbo, Zbp, Zbq, Zbr, Zbs, Zbt, Zbu, Zbv, Zbw, Zbx, Zby, Zbz, Zb0, Zb1, Zb2, decide_true, decide_false, Zb3, Zb4, Zb5, Zb6, Zb7, Zb8, Zb9, Zca, Zcb, Zcc, Zcd, beq_self_eq_true, cond_true, cond_false, if_false, if_true, reduceIte, reduceCtorEq, not_true_eq_false, not_false_eq_true, true_and, and_true, forall_const, false_and, and_false, implies_true, Zce, Zcf, Zcg, Zch, Zci]) | refine And.intro ?_ ?_)
              all_goals
                have hpp : ∀ e ∈ Ho ++ Hx, e.1 ≠ p ∧ e.1 ≠ q := fun e he => ⟨hp5 e he, hq5 e he⟩
                have hqq : ∀ e ∈ Ho ++ Hx, e.1 ≠ q ∧ e.1 ≠ p := fun e he => ⟨hq5 e he, hp5 e he⟩
                first
                  | (refine CutK.on (p, q) ⟨hFp, hFq, hq0, ⟨hp1, hp2, hp3, hp4⟩, ⟨hq1, hq2, hq3, hq4⟩, hpp⟩ ?_ ⟨?_, ?_, ?_, ?_, ?_, ?_, HLe.of ?_⟩
                     next => simp only [Le_nil, Le_cons]; simp (disch := first | assumption | exact Ne.symm (by assumption) | omega) only [↓ZD, ZU, ne_eq, Zaa, Zab, false_implies, Zac, Zad, Zae, Zaf, Zag, Zah, Zai, Zaj, Zak, Zal, Zam, Zan, Zao, Zap, Zaq, Zar, Zas, Zat, Zau, Zav, Zaw, Zax, Zay, Zaz, Za0, Za1, Za2, Za3, Za4, Za5, Za6, Za7, Za8, Za9, Zba, Zbb, Zbc, Zbd, Zbe, Zbf, Zbg, Zbh, Zbi, Zbj, Zbk, Zbl, Zbm, Zbn, Zbo, Zbp, Zbq, Zbr, Zbs, Zbt, Zbu, Zbv, Zbw, Zbx, Zby, Zbz, Zb0, Zb1, Zb2, decide_true, decide_false, Zb3, Zb4, Zb5, Zb6, Zb7, Zb8, Zb9, Zca, Zcb, Zcc, Zcd, beq_self_eq_true, cond_true, cond_false, if_false, if_true, reduceIte, reduceCtorEq, not_true_eq_false, not_false_eq_true, true_and, and_true, forall_const, false_and, and_false, implies_true, Zce, Zcf, Zcg, Zch, Zci]; done
                     next => simp (disch := first | assumption | exact Ne.symm (by assumption) | omega) only [↓ZD, ZU, ne_eq, Zaa, Zab, false_implies, Zac, Zad, Zae, Zaf, Zag, Zah, Zai, Zaj, Zak, Zal, Zam, Zan, Zao, Zap, Zaq, Zar, Zas, Zat, Zau, Zav, Zaw, Zax, Zay, Zaz, Za0, Za1, Za2, Za3, Za4, Za5, Za6, Za7, Za8, Za9, Zba, Zbb, Zbc, Zbd, Zbe, Zbf, Zbg, Zbh, Zbi, Zbj, Zbk, Zbl, Zbm, Zbn, Zbo, Zbp, Zbq, Zbr, Zbs, Zbt, Zbu, Zbv, Zbw, Zbx, Zby, Zbz, Zb0, Zb1, Zb2, decide_true, decide_false, Zb3, Zb4, Zb5, Zb6, Zb7, Zb8, Zb9, Zca, Zcb, Zcc, Zcd, beq_self_eq_true, cond_true, cond_false, if_false, if_true, reduceIte, reduceCtorEq, not_true_eq_false, not_false_eq_true, true_and, and_true, forall_const, false_and, and_false, implies_true, Zce, Zcf, Zcg, Zch, Zci]; done
                     next => simp (disch := first | assumption | exact Ne.symm (by assumption) | omega) only [↓ZD, ZU, ne_eq, Zaa, Zab, false_implies, Zac, Zad, Zae, Zaf, Zag, Zah, Zai, Zaj, Zak, Zal, Zam, Zan, Zao, Zap, Zaq, Zar, Zas, Zat, Zau, Zav, Zaw, Zax, Zay, Zaz, Za0, Za1, Za2, Za3, Za4, Za5, Za6, Za7, Za8, Za9, Zba, Zbb, Zbc, Zbd, Zbe, Zbf, Zbg, Zbh, Zbi, Zbj, Zbk, Zbl, Zbm, Zbn, Zbo, Zbp, Zbq, Zbr, Zbs, Zbt, Zbu, Zbv, Zbw, Zbx, Zby, Zbz, Zb0, Zb1, Zb2, decide_true, decide_false, Zb3, Zb4, Zb5, Zb6, Zb7, Zb8, Zb9, Zca, Zcb, Zcc, Zcd, beq_self_eq_true, cond_true, cond_false, if_false, if_true, reduceIte, reduceCtorEq, not_true_eq_false, not_false_eq_true, true_and, and_true, forall_const, false_and, and_false, implies_true, Zce, Zcf, Zcg, Zch, Zci]; done
                     next => simp (disch := first | assumption | exact Ne.symm (by assumption) | omega) only [↓ZD, ZU, ne_eq, Zaa, Zab, false_implies, Zac, Zad, Zae, Zaf, Zag, Zah, Zai, Zaj, Zak, Zal, Zam, Zan, Zao, Zap, Zaq, Zar, Zas, Zat, Zau, Zav, Zaw, Zax, Zay, Zaz, Za0, Za1, Za2, Za3, Za4, Za5, Za6, Za7, Za8, Za9, Zba, Zbb, Zbc, Zbd, Zbe, Zbf, Zbg, Zbh, Zbi, Zbj, Zbk, Zbl, Zbm, Zbn, Zbo, Zbp, Zbq, Zbr, Zbs, Zbt, Zbu, Zbv, Zbw, Zbx, Zby, Zbz, Zb0, Zb1, Zb2, decide_true, decide_false, Zb3, Zb4, Zb5, Zb6, Zb7, Zb8, Zb9, Zca, Zcb, Zcc, Zcd, beq_self_eq_true, cond_true, cond_false, if_false, if_true, reduceIte, reduceCtorEq, not_true_eq_false, not_false_eq_true, true_and, and_true, forall_const, false_and, and_false, implies_true, Zce, Zcf, Zcg, Zch, Zci]; done
                     next => simp (disch := first | assumption | exact Ne.symm (by assumption) | omega) only [↓ZD, ZU, ne_eq, Zaa, Zab, false_implies, Zac, Zad, Zae, Zaf, Zag, Zah, Zai, Zaj, Zak, Zal, Zam, Zan, Zao, Zap, Zaq, Zar, Zas, Zat, Zau, Zav, Zaw, Zax, Zay, Zaz, Za0, Za1, Za2, Za3, Za4, Za5, Za6, Za7, Za8, Za9, Zba, Zbb, Zbc, Zbd, Zbe, Zbf, Zbg, Zbh, Zbi, Zbj, Zbk, Zbl, Zbm, Zbn, Zbo, Zbp, Zbq, Zbr, Zbs, Zbt, Zbu, Zbv, Zbw, Zbx, Zby, Zbz, Zb0, Zb1, Zb2, decide_true, decide_false, Zb3, Zb4, Zb5, Zb6, Zb7, Zb8, Zb9, Zca, Zcb, Zcc, Zcd, beq_self_eq_true, cond_true, cond_false, if_false, if_true, reduceIte, reduceCtorEq, not_true_eq_false, not_false_eq_true, true_and, and_true, forall_const, false_and, and_false, implies_true, Zce, Zcf, Zcg, Zch, Zci]; done
                     next => simp (disch := first | assumption | exact Ne.symm (by assumption) | omega) only [↓ZD, ZU, ne_eq, Zaa, Zab, false_implies, Zac, Zad, Zae, Zaf, Zag, Zah, Zai, Zaj, Zak, Zal, Zam, Zan, Zao, Zap, Zaq, Zar, Zas, Zat, Zau, Zav, Zaw, Zax, Zay, Zaz, Za0, Za1, Za2, Za3, Za4, Za5, Za6, Za7, Za8, Za9, Zba, Zbb, Zbc, Zbd, Zbe, Zbf, Zbg, Zbh, Zbi, Zbj, Zbk, Zbl, Zbm, Zbn, Zbo, Zbp, Zbq, Zbr, Zbs, Zbt, Zbu, Zbv, Zbw, Zbx, Zby, Zbz, Zb0, Zb1, Zb2, decide_true, decide_false, Zb3, Zb4, Zb5, Zb6, Zb7, Zb8, Zb9, Zca, Zcb, Zcc, Zcd, beq_self_eq_true, cond_true, cond_false, if_false, if_true, reduceIte, reduceCtorEq, not_true_eq_false, not_false_eq_true, true_and, and_true, forall_const, false_and, and_false, implies_true, Zce, Zcf, Zcg, Zch, Zci]; done
                     next => simp (disch := first | assumption | exact Ne.symm (by assumption) | omega) only [↓ZD, ZU, ne_eq, Zaa, Zab, false_implies, Zac, Zad, Zae, Zaf, Zag, Zah, Zai, Zaj, Zak, Zal, Zam, Zan, Zao, Zap, Zaq, Zar, Zas, Zat, Zau, Zav, Zaw, Zax, Zay, Zaz, Za0, Za1, Za2, Za3, Za4, Za5, Za6, Za7, Za8, Za9, Zba, Zbb, Zbc, Zbd, Zbe, Zbf, Zbg, Zbh, Zbi, Zbj, Zbk, Zbl, Zbm, Zbn, Zbo, Zbp, Zbq, Zbr, Zbs, Zbt, Zbu, Zbv, Zbw, Zbx, Zby, Zbz, Zb0, Zb1, Zb2, decide_true, decide_false, Zb3, Zb4, Zb5, Zb6, Zb7, Zb8, Zb9, Zca, Zcb, Zcc, Zcd, beq_self_eq_true, cond_true, cond_false, if_false, if_true, reduceIte, reduceCtorEq, not_true_eq_false, not_false_eq_true, true_and, and_true, forall_const, false_and, and_false, implies_true, Zce, Zcf, Zcg, Zch, Zci]; done)
                  | (refine CutK.on (q, p) ⟨hFq, hFp, hq0.symm, ⟨hq1, hq2, hq3, hq4⟩, ⟨hp1, hp2, hp3, hp4⟩, hqq⟩ ?_ ⟨?_, ?_, ?_, ?_, ?_, ?_, HLe.of ?_⟩
                     next => simp only [Le_nil, Le_cons]; simp (disch := first | assumption | exact Ne.symm (by assumption) | omega) only [↓ZD, ZU, ne_eq, Zaa, Zab, false_implies, Zac, Zad, Zae, Zaf, Zag, Zah, Zai, Zaj, Zak, Zal, Zam, Zan, Zao, Zap, Zaq, Zar, Zas, Zat, Zau, Zav, Zaw, Zax, Zay, Zaz, Za0, Za1, Za2, Za3, Za4, Za5, Za6, Za7, Za8, Za9, Zba, Zbb, Zbc, Zbd, Zbe, Zbf, Zbg, Zbh, Zbi, Zbj, Zbk, Zbl, Zbm, Zbn, Zbo, Zbp, Zbq, Zbr, Zbs, Zbt, Zbu, Zbv, Zbw, Zbx, Zby, Zbz, Zb0, Zb1, Zb2, decide_true, decide_false, Zb3, Zb4, Zb5, Zb6, Zb7, Zb8, Zb9, Zca, Zcb, Zcc, Zcd, beq_self_eq_true, cond_true, cond_false, if_false, if_true, reduceIte, reduceCtorEq, not_true_eq_false, not_false_eq_true, true_and, and_true, forall_const, false_and, and_false, implies_true, Zce, Zcf, Zcg, Zch, Zci]; done
                     next => simp (disch := first | assumption | exact Ne.symm (by assumption) | omega) only [↓ZD, ZU, ne_eq, Zaa, Zab, false_implies, Zac, Zad, Zae, Zaf, Zag, Zah, Zai, Zaj, Zak, Zal, Zam, Zan, Zao, Zap, Zaq, Zar, Zas, Zat, Zau, Zav, Zaw, Zax, Zay, Zaz, Za0, Za1, Za2, Za3, Za4, Za5, Za6, Za7, Za8, Za9, Zba, Zbb, Zbc, Zbd, Zbe, Zbf, Zbg, Zbh, Zbi, Zbj, Zbk, Zbl, Zbm, Zbn, Zbo, Zbp, Zbq, Zbr, Zbs, Zbt, Zbu, Zbv, Zbw, Zbx, Zby, Zbz, Zb0, Zb1, Zb2, decide_true, decide_false, Zb3, Zb4, Zb5, Zb6, Zb7, Zb8, Zb9, Zca, Zcb, Zcc, Zcd, beq_self_eq_true, cond_true, cond_false, if_false, if_true, reduceIte, reduceCtorEq, not_true_eq_false, not_false_eq_true, true_and, and_true, forall_const, false_and, and_false, implies_true, Zce, Zcf, Zcg, Zch, Zci]; done
                     next => simp (disch := first | assumption | exact Ne.symm (by assumption) | omega) only [↓ZD, ZU, ne_eq, Zaa, Zab, false_implies, Zac, Zad, Zae, Zaf, Zag, Zah, Zai, Zaj, Zak, Zal, Zam, Zan, Zao, Zap, Zaq, Zar, Zas, Zat, Zau, Zav, Zaw, Zax, Zay, Zaz, Za0, Za1, Za2, Za3, Za4, Za5, Za6, Za7, Za8, Za9, Zba, Zbb, Zbc, Zbd, Zbe, Zbf, Zbg, Zbh, Zbi, Zbj, Zbk, Zbl, Zbm, Zbn, Zbo, Zbp, Zbq, Zbr, Zbs, Zbt, Zbu, Zbv, Zbw, Zbx, Zby, Zbz, Zb0, Zb1, Zb2, decide_true, decide_false, Zb3, Zb4, Zb5, Zb6, Zb7, Zb8, Zb9, Zca, Zcb, Zcc, Zcd, beq_self_eq_true, cond_true, cond_false, if_false, if_true, reduceIte, reduceCtorEq, not_true_eq_false, not_false_eq_true, true_and, and_true, forall_const, false_and, and_false, implies_true, Zce, Zcf, Zcg, Zch, Zci]; done
                     next => simp (disch := first | assumption | exact Ne.symm (by assumption) | omega) only [↓ZD, ZU, ne_eq, Zaa, Zab, false_implies, Zac, Zad, Zae, Zaf, Zag, Zah, Zai, Zaj, Zak, Zal, Zam, Zan, Zao, Zap, Zaq, Zar, Zas, Zat, Zau, Zav, Zaw, Zax, Zay, Zaz, Za0, Za1, Za2, Za3, Za4, Za5, Za6, Za7, Za8, Za9, Zba, Zbb, Zbc, Zbd, Zbe, Zbf, Zbg, Zbh, Zbi, Zbj, Zbk, Zbl, Zbm, Zbn, Zbo, Zbp, Zbq, Zbr, Zbs, Zbt, Zbu, Zbv, Zbw, Zbx, Zby, Zbz, Zb0, Zb1, Zb2, decide_true, decide_false, Zb3, Zb4, Zb5, Zb6, Zb7, Zb8, Zb9, Zca, Zcb, Zcc, Zcd, beq_self_eq_true, cond_true, cond_false, if_false, if_true, reduceIte, reduceCtorEq, not_true_eq_false, not_false_eq_true, true_and, and_true, forall_const, false_and, and_false, implies_true, Zce, Zcf, Zcg, Zch, Zci]; done
                     next => simp (disch := first | assumption | exact Ne.symm (by assumption) | omega) only [↓ZD, ZU, ne_eq, Zaa, Zab, false_implies, Zac, Zad, Zae, Zaf, Zag, Zah, Zai, Zaj, Zak, Zal, Zam, Zan, Zao, Zap, Zaq, Zar, Zas, Zat, Zau, Zav, Zaw, Zax, Zay, Zaz, Za0, Za1, Za2, Za3, Za4, Za5, Za6, Za7, Za8, Za9, Zba, Zbb, Zbc, Zbd, Zbe, Zbf, Zbg, Zbh, Zbi, Zbj, Zbk, Zbl, Zbm, Zbn, Zbo, Zbp, Zbq, Zbr, Zbs, Zbt, Zbu, Zbv, Zbw, Zbx, Zby, Zbz, Zb0, Zb1, Zb2, decide_true, decide_false, Zb3, Zb4, Zb5, Zb6, Zb7, Zb8, Zb9, Zca, Zcb, Zcc, Zcd, beq_self_eq_true, cond_true, cond_false, if_false, if_true, reduceIte, reduceCtorEq, not_true_eq_false, not_false_eq_true, true_and, and_true, forall_const, false_and, and_false, implies_true, Zce, Zcf, Zcg, Zch, Zci]; done
                     next => simp (disch := first | assumption | exact Ne.symm (by assumption) | omega) only [↓ZD, ZU, ne_eq, Zaa, Zab, false_implies, Zac, Zad, Zae, Zaf, Zag, Zah, Zai, Zaj, Zak, Zal, Zam, Zan, Zao, Zap, Zaq, Zar, Zas, Zat, Zau, Zav, Zaw, Zax, Zay, Zaz, Za0, Za1, Za2, Za3, Za4, Za5, Za6, Za7, Za8, Za9, Zba, Zbb, Zbc, Zbd, Zbe, Zbf, Zbg, Zbh, Zbi, Zbj, Zbk, Zbl, Zbm, Zbn, Zbo, Zbp, Zbq, Zbr, Zbs, Zbt, Zbu, Zbv, Zbw, Zbx, Zby, Zbz, Zb0, Zb1, Zb2, decide_true, decide_false, Zb3, Zb4, Zb5, Zb6, Zb7, Zb8, Zb9, Zca, Zcb, Zcc, Zcd, beq_self_eq_true, cond_true, cond_false, if_false, if_true, reduceIte, reduceCtorEq, not_true_eq_false, not_false_eq_true, true_and, and_true, forall_const, false_and, and_false, implies_true, Zce, Zcf, Zcg, Zch, Zci]; done
                     next => simp (disch := first | assumption | exact Ne.symm (by assumption) | omega) only [↓ZD, ZU, ne_eq, Zaa, Zab, false_implies, Zac, Zad, Zae, Zaf, Zag, Zah, Zai, Zaj, Zak, Zal, Zam, Zan, Zao, Zap, Zaq, Zar, Zas, Zat, Zau, Zav, Zaw, Zax, Zay, Zaz, Za0, Za1, Za2, Za3, Za4, Za5, Za6, Za7, Za8, Za9, Zba, Zbb, Zbc, Zbd, Zbe, Zbf, Zbg, Zbh, Zbi, Zbj, Zbk, Zbl, Zbm, Zbn, Zbo, Zbp, Zbq, Zbr, Zbs, Zbt, Zbu, Zbv, Zbw, Zbx, Zby, Zbz, Zb0, Zb1, Zb2, decide_true, decide_false, Zb3, Zb4, Zb5, Zb6, Zb7, Zb8, Zb9, Zca, Zcb, Zcc, Zcd, beq_self_eq_true, cond_true, cond_false, if_false, if_true, reduceIte, reduceCtorEq, not_true_eq_false, not_false_eq_true, true_and, and_true, forall_const, false_and, and_false, implies_true, Zce, Zcf, Zcg, Zch, Zci]; done)
                refine Okh.lk (A := [_, _, _, _, _, _]) hoh ?_
                simp only [List.forall_mem_cons]
                exact ⟨hq5, hp5, fun e he => (hap e he).1, fun e he => (hap e he).2.1, fun e he => (hap e he).2.2.1, fun e he => (hap e he).2.2.2, fun e he => by cases he⟩
            · rintro ⟨b5, b6⟩ ⟨hF5, hF6, h56, hb5, hb6, hpq⟩
              simp only at hF5 hF6 h56 hb5 hb6 hpq
              simp (disch := first | assumption | exact Ne.symm (by assumption) | omega) only [hF3, hF4, hF5, hF6, ↓ZD, ZU, ne_eq, Zaa, Zab, false_implies, Zac, Zad, Zae, Zaf, Zag, Zah, Zai, Zaj, Zak, Zal, Zam, Zan, Zao, Zap, Zaq, Zar, Zas, Zat, Zau, Zav, Zaw, Zax, Zay, Zaz, Za0, Za1, Za2, Za3, Za4, Za5, Za6, Za7, Za8, Za9, Zba, Zbb, Zbc, Zbd, Zbe, Zbf, Zbg, Zbh, Zbi, Zbj, Zbk, Zbl, Zbm, Zbn, Zbo, Zbp, Zbq, Zbr, Zbs, Zbt, Zbu, Zbv, Zbw, Zbx, Zby, Zbz, Zb0, Zb1, Zb2, decide_true, decide_false, Zb3, Zb4, Zb5, Zb6, Zb7, Zb8, Zb9, Zca, Zcb, Zcc, Zcd, beq_self_eq_true, cond_true, cond_false, if_false, if_true, reduceIte, reduceCtorEq, not_true_eq_false, not_false_eq_true, true_and, and_true, forall_const, false_and, and_false, implies_true, Zce, Zcf, Zcg, Zch, Zci]
              refine CallE.news (hc.up le_up) ?_
              rintro v' H' ⟨cs, er, rfl, hp⟩ hf' hd0 hn'
              obtain ⟨q1, q2, q3, q4, q5, q6, q7, q8, hcs⟩ := hp.form
              rw [hcs] at hp
              rw [hcs]
              simp only [List.forall_mem_cons] at hd0
              obtain ⟨_, _, _, _⟩ := hb5
              obtain ⟨_, _, _, _⟩ := hb6
              simp (disch := first | assumption | exact Ne.symm (by assumption) | omega) only [hF3, hF4, hF5, hF6, ↓ZD, ZU, ne_eq, Zaa, Zab, false_implies, Zac, Zad, Zae, Zaf, Zag, Zah, Zai, Zaj, Zak, Zal, Zam, Zan, Zao, Zap, Zaq, Zar, Zas, Zat, Zau, Zav, Zaw, Zax, Zay, Zaz, Za0, Za1, Za2, Za3, Za4, Za5, Za6, Za7, Za8, Za9, Zba, Zbb, Zbc, Zbd, Zbe, Zbf, Zbg, Zbh, Zbi, Zbj, Zbk, Zbl, Zbm, Zbn, Zbo, Zbp, Zbq, Zbr, Zbs, Zbt, Zbu, Zbv, Zbw, Zbx, Zby, Zbz, Zb0, Zb1, Zb2, decide_true, decide_false, Zb3, Zb4, Zb5, Zb6, Zb7, Zb8, Zb9, Zca, Zcb, Zcc, Zcd, beq_self_eq_true, cond_true, cond_false, if_false, if_true, reduceIte, reduceCtorEq, not_true_eq_false, not_false_eq_true, true_and, and_true, forall_const, false_and, and_false, implies_true, Zce, Zcf, Zcg, Zch, Zci]
              refine NewB.of fun b7 hb7 hF7 => ?_
              simp only [List.forall_mem_cons] at hb7
              obtain ⟨_, _, _, _, _, _, hb7⟩ := hb7
              have hup : ∀ o, upd (Ho ++ Hx ++ H') b7 o = Ho ++ Hx ++ H' := fun o => upd_new hb7
              simp (disch := first | assumption | exact Ne.symm (by assumption) | omega) only [hF3, hF4, hF5, hF6, hF7, hup, ↓ZD, ZU, ne_eq, Zaa, Zab, false_implies, Zac, Zad, Zae, Zaf, Zag, Zah, Zai, Zaj, Zak, Zal, Zam, Zan, Zao, Zap, Zaq, Zar, Zas, Zat, Zau, Zav, Zaw, Zax, Zay, Zaz, Za0, Za1, Za2, Za3, Za4, Za5, Za6, Za7, Za8, Za9, Zba, Zbb, Zbc, Zbd, Zbe, Zbf, Zbg, Zbh, Zbi, Zbj, Zbk, Zbl, Zbm, Zbn, Zbo, Zbp, Zbq, Zbr, Zbs, Zbt, Zbu, Zbv, Zbw, Zbx, Zby, Zbz, Zb0, Zb1, Zb2, decide_true, decide_false, Zb3, Zb4, Zb5, Zb6, Zb7, Zb8, Zb9, Zca, Zcb, Zcc, Zcd, beq_self_eq_true, cond_true, cond_false, if_false, if_true, reduceIte, reduceCtorEq, not_true_eq_false, not_false_eq_true, true_and, and_true, forall_const, false_and, and_false, implies_true, Zce, Zcf, Zcg, Zch, Zci]
              have hap2 : ∀ e ∈ Ho ++ Hx, e.1 ≠ b4 := fun e he => (hap e he).1
              have hq6 : ∀ e ∈ Ho ++ Hx ++ H', e.1 ≠ b6 := fun e he => by
                rcases List.mem_append.1 he with h | h
                · exact (hpq e h).2
                · exact hd0.1 e h
              have hq5 : ∀ e ∈ Ho ++ Hx ++ H', e.1 ≠ b5 := fun e he => by
                rcases List.mem_append.1 he with h | h
                · exact (hpq e h).1
                · exact hd0.2.1 e h
              have hq4 : ∀ e ∈ Ho ++ Hx ++ H', e.1 ≠ b4 := fun e he => by
                rcases List.mem_append.1 he with h | h
                · exact (hap e h).1
                · exact hd0.2.2.1 e h
              have hq3 : ∀ e ∈ Ho ++ Hx ++ H', e.1 ≠ b3 := fun e he => by
                rcases List.mem_append.1 he with h | h
                · exact (hap e h).2.1
                · exact hd0.2.2.2.1 e h
              have hq2 : ∀ e ∈ Ho ++ Hx ++ H', e.1 ≠ b2 := fun e he => by
                rcases List.mem_append.1 he with h | h
                · exact (hap e h).2.2.1
                · exact hd0.2.2.2.2.1 e h
              have hq1 : ∀ e ∈ Ho ++ Hx ++ H', e.1 ≠ b1 := fun e he => by
                rcases List.mem_append.1 he with h | h
                · exact (hap e h).2.2.2
                · exact hd0.2.2.2.2.2.1 e h
              refine ⟨fun he => ?_, fun he => ?_⟩
              · refine ⟨[], by simp, _, _, rfl, ?_⟩
                cases hj : join xt yt with
                | none =>
                  rw [hj] at hp
                  rw [joinA, hj] at hja
                  rw [hja]
                  exact ⟨rfl, hp.2.1, rfl⟩
                | some u => rw [hj] at hp; rw [hp.1] at he; cases he
              cases hj : join xt yt with
              | none => rw [hj] at hp; rw [hp.2.1] at he; cases he
              | some u =>
                rw [hj] at hp
                rw [joinA, hj] at hja
                have hoh' : Okh (Ho ++ Hx ++ H') := Okh.app hoh hp.2.2 hd0.2.2.2.2.2.2
                refine NewB.of fun b8 hb8 hF8 => ?_
                simp only [List.forall_mem_cons] at hb8
                obtain ⟨_, _, _, _, _, _, _, hb8⟩ := hb8
                have hup2 : ∀ o, upd (Ho ++ Hx ++ H') b8 o = Ho ++ Hx ++ H' := fun o => upd_new hb8
                simp (disch := first | assumption | exact Ne.symm (by assumption) | omega) only [hF3, hF4, hF5, hF6, hF7, hF8, hup2, ↓ZD, ZU, ne_eq, Zaa, Zab, false_implies, Zac, Zad, Zae, Zaf, Zag, Zah, Zai, Zaj, Zak, Zal, Zam, Zan, Zao, Zap, Zaq, Zar, Zas, Zat, Zau, Zav, Zaw, Zax, Zay, Zaz, Za0, Za1, Za2, Za3, Za4, Za5, Za6, Za7, Za8, Za9, Zba, Zbb, Zbc, Zbd, Zbe, Zbf, Zbg, Zbh, Zbi, Zbj, Zbk, Zbl, Zbm, Zbn, Zbo, Zbp, Zbq, Zbr, Zbs, Zbt, Zbu, Zbv, Zbw, Zbx, Zby, Zbz, Zb0, Zb1, Zb2, decide_true, decide_false, Zb3, Zb4, Zb5, Zb6, Zb7, Zb8, Zb9, Zca, Zcb, Zcc, Zcd, beq_self_eq_true, cond_true, cond_false, if_false, if_true, reduceIte, reduceCtorEq, not_true_eq_false, not_false_eq_true, true_and, and_true, forall_const, false_and, and_false, implies_true, Zce, Zcf, Zcg, Zch, Zci]
                refine EfL.grow (Hr := (b4, .cells #[.int .i64 8, .string (bs []), .slice none 0 0, v] 25 (0, 0)) :: (b3, .cells #[.int .i64 0, .string (bs []), .slice none 0 0, .slice none 0 0] 25 (0, 0)) ::
                  (b2, .cells #[.int .i64 8, .string (bs nm'), .slice a1' es'.length c1', .slice (some ⟨bb, ob, none⟩) ats'.length c2'] 25 (0, 0)) :: (b1, .cells #[.int .i64 8, .string (bs nm), .slice a1 es.length c1, .slice (some ⟨ba, oa, none⟩) ats.length c2] 25 (0, 0)) :: (Hx ++ H'))
                  (m := 1) (nw := [.string (bs xn), .int .i64 q1, .string (bs q2), .slice q3 q4 q5, .slice q6 q7 q8, .bool (xo || yo)]) ho ?_ ?_ ?_ ?_ rfl (by simp [oneCell]) (by simp) (by omega) ?_
                · intro e he
                  refine (Okh.lk (A := [_, _, _, _, _, _, _, _]) hoh' ?_) e (by simp [he])
                  simp only [List.forall_mem_cons]
                  exact ⟨hb8, hb7, hq6, hq5, hq4, hq3, hq2, hq1, fun e he => by cases he⟩
                · intro e he
                  simp only [List.mem_cons, List.mem_append] at he ⊢
                  rcases he with h | h | h | h | h | h <;> simp [h]
                · simp only [List.forall_mem_cons]
                  refine ⟨fun e he => (hap e (by simp [he])).1, fun e he => (hap e (by simp [he])).2.1, fun e he => (hap e (by simp [he])).2.2.1, fun e he => (hap e (by simp [he])).2.2.2, fun e' he' e he => ?_⟩
                  rcases List.mem_append.1 he' with h | h
                  · exact (had e he e' h).symm
                  · exact (hd0.2.2.2.2.2.2 e (by simp [he]) e' h).symm
                · simp (disch := first | assumption | exact Ne.symm (by assumption) | omega) only [hF8, ↓ZD, ZU, ne_eq, Zaa, Zab, false_implies, Zac, Zad, Zae, Zaf, Zag, Zah, Zai, Zaj, Zak, Zal, Zam, Zan, Zao, Zap, Zaq, Zar, Zas, Zat, Zau, Zav, Zaw, Zax, Zay, Zaz, Za0, Za1, Za2, Za3, Za4, Za5, Za6, Za7, Za8, Za9, Zba, Zbb, Zbc, Zbd, Zbe, Zbf, Zbg, Zbh, Zbi, Zbj, Zbk, Zbl, Zbm, Zbn, Zbo, Zbp, Zbq, Zbr, Zbs, Zbt, Zbu, Zbv, Zbw, Zbx, Zby, Zbz, Zb0, Zb1, Zb2, decide_true, decide_false, Zb3, Zb4, Zb5, Zb6, Zb7, Zb8, Zb9, Zca, Zcb, Zcc, Zcd, beq_self_eq_true, cond_true, cond_false, if_false, if_true, reduceIte, reduceCtorEq, not_true_eq_false, not_false_eq_true, true_and, and_true, forall_const, false_and, and_false, implies_true, Zce, Zcf, Zcg, Zch, Zci]
                · intro b9 cap sp hs3 hc2 hcm hF9 hne9
                  simp only [List.forall_mem_cons] at hne9
                  obtain ⟨_, _, _, _, hne9⟩ := hne9
                  have hoh3 : Okh (Hx ++ H') := Okh.app hox hp.2.2 fun e' he' e he => hd0.2.2.2.2.2.2 e' (by simp [he']) e he
                  have hq : ∀ e ∈ Hx ++ H', e ∈ Ho ++ Hx ++ H' := fun e he => by
                    rcases List.mem_append.1 he with h | h <;> simp [h]
                  have hup3 : ∀ o, upd (Hx ++ H') b4 o = Hx ++ H' := fun o => upd_new fun e he => hq4 e (hq e he)
                  have hlr : rows.length = r.length * 6 := by
                    rcases ho.out with ⟨rfl, h, -⟩ | ⟨_, _, _, _, _, _, h, _⟩
                    · rw [hrl, h]; rfl
                    · rw [hrl]; exact h
                  simp (disch := first | assumption | exact Ne.symm (by assumption) | omega) only [hF4, hF9, hup3, ↓ZD, ZU, ne_eq, Zaa, Zab, false_implies, Zac, Zad, Zae, Zaf, Zag, Zah, Zai, Zaj, Zak, Zal, Zam, Zan, Zao, Zap, Zaq, Zar, Zas, Zat, Zau, Zav, Zaw, Zax, Zay, Zaz, Za0, Za1, Za2, Za3, Za4, Za5, Za6, Za7, Za8, Za9, Zba, Zbb, Zbc, Zbd, Zbe, Zbf, Zbg, Zbh, Zbi, Zbj, Zbk, Zbl, Zbm, Zbn, Zbo, Zbp, Zbq, Zbr, Zbs, Zbt, Zbu, Zbv, Zbw, Zbx, Zby, Zbz, Zb0, Zb1, Zb2, decide_true, decide_false, Zb3, Zb4, Zb5, Zb6, Zb7, Zb8, Zb9, Zca, Zcb, Zcc, Zcd, beq_self_eq_true, cond_true, cond_false, if_false, if_true, reduceIte, reduceCtorEq, not_true_eq_false, not_false_eq_true, true_and, and_true, forall_const, false_and, and_false, implies_true, Zce, Zcf, Zcg, Zch, Zci]
                  refine invK.on (i + 1, r ++ [(xn, u, xo || yo)], rows ++ [.string (bs xn), .int .i64 q1, .string (bs q2), .slice q3 q4 q5, .slice q6 q7 q8, .bool (xo || yo)], .slice (some ⟨b9, 0, none⟩) (i + 1) cap, [(b9, .cells (rows ++ ([.string (bs xn), .int .i64 q1, .string (bs q2), .slice q3 q4 q5, .slice q6 q7 q8, .bool (xo || yo)] : List Value) ++ sp).toArray 30 (0, 0))], Hx ++ H')
                    ⟨?_, ?_, ?_, OwnS.mk sp hF9 rfl rfl ?_ hs3 hc2 hcm, ?_, hoh3, ?_, ?_⟩ (by simp only; omega) (by (simp only [Le_nil, Le_cons]; simp (disch := first | assumption | exact Ne.symm (by assumption) | omega) only [↓ZD, ZU, ne_eq, Zaa, Zab, false_implies, Zac, Zad, Zae, Zaf, Zag, Zah, Zai, Zaj, Zak, Zal, Zam, Zan, Zao, Zap, Zaq, Zar, Zas, Zat, Zau, Zav, Zaw, Zax, Zay, Zaz, Za0, Za1, Za2, Za3, Za4, Za5, Za6, Za7, Za8, Za9, Zba, Zbb, Zbc, Zbd, Zbe, Zbf, Zbg, Zbh, Zbi, Zbj, Zbk, Zbl, Zbm, Zbn, Zbo, Zbp, Zbq, Zbr, Zbs, Zbt, Zbu, Zbv, Zbw, Zbx, Zby, Zbz, Zb0, Zb1, Zb2, decide_true, decide_false, Zb3, Zb4, Zb5, Zb6, Zb7, Zb8, Zb9, Zca, Zcb, Zcc, Zcd, beq_self_eq_true, cond_true, cond_false, if_false, if_true, reduceIte, reduceCtorEq, not_true_eq_false, not_false_eq_true, true_and, and_true, forall_const, false_and, and_false, implies_true, Zce, Zcf, Zcg, Zch, Zci]; try trivial)) ?_
                  · simp only; omega
                  · simp [hrl]
                  · rw [hja]
                    simp [Option.map_map, Function.comp_def]
                  · simp [hlr, hrl]; omega
                  · exact (hrw.mono fun b o h => hext_app b o h).snoc hlr (hp.2.1.mono fun b o h => rdObj_app (fun e' he' e he => hd0.2.2.2.2.2.2 e' (by simp [he']) e he) h) nx
                  · intro e he
                    simp only [List.cons_append, List.nil_append, List.mem_cons] at he
                    rcases he with rfl | he
                    · exact ⟨Ne.symm (by assumption), Ne.symm (by assumption), Ne.symm (by assumption), Ne.symm (by assumption)⟩
                    · exact ⟨hq4 e (hq e he), hq3 e (hq e he), hq2 e (hq e he), hq1 e (hq e he)⟩
                  · simp only [List.forall_mem_cons]
                    exact ⟨hne9, fun e' he' => by cases he'⟩
                  · simp only [List.cons_append, List.nil_append]
                    refine ⟨by simp (disch := first | assumption | exact Ne.symm (by assumption) | omega) only [↓ZD, ZU, ne_eq, Zaa, Zab, false_implies, Zac, Zad, Zae, Zaf, Zag, Zah, Zai, Zaj, Zak, Zal, Zam, Zan, Zao, Zap, Zaq, Zar, Zas, Zat, Zau, Zav, Zaw, Zax, Zay, Zaz, Za0, Za1, Za2, Za3, Za4, Za5, Za6, Za7, Za8, Za9, Zba, Zbb, Zbc, Zbd, Zbe, Zbf, Zbg, Zbh, Zbi, Zbj, Zbk, Zbl, Zbm, Zbn, Zbo, Zbp, Zbq, Zbr, Zbs, Zbt, Zbu, Zbv, Zbw, Zbx, Zby, Zbz, Zb0, Zb1, Zb2, decide_true, decide_false, Zb3, Zb4, Zb5, Zb6, Zb7, Zb8, Zb9, Zca, Zcb, Zcc, Zcd, beq_self_eq_true, cond_true, cond_false, if_false, if_true, reduceIte, reduceCtorEq, not_true_eq_false, not_false_eq_true, true_and, and_true, forall_const, false_and, and_false, implies_true, Zce, Zcf, Zcg, Zch, Zci], by simp (disch := first | assumption | exact Ne.symm (by assumption) | omega) only [↓ZD, ZU, ne_eq, Zaa, Zab, false_implies, Zac, Zad, Zae, Zaf, Zag, Zah, Zai, Zaj, Zak, Zal, Zam, Zan, Zao, Zap, Zaq, Zar, Zas, Zat, Zau, Zav, Zaw, Zax, Zay, Zaz, Za0, Za1, Za2, Za3, Za4, Za5, Za6, Za7, Za8, Za9, Zba, Zbb, Zbc, Zbd, Zbe, Zbf, Zbg, Zbh, Zbi, Zbj, Zbk, Zbl, Zbm, Zbn, Zbo, Zbp, Zbq, Zbr, Zbs, Zbt, Zbu, Zbv, Zbw, Zbx, Zby, Zbz, Zb0, Zb1, Zb2, decide_true, decide_false, Zb3, Zb4, Zb5, Zb6, Zb7, Zb8, Zb9, Zca, Zcb, Zcc, Zcd, beq_self_eq_true, cond_true, cond_false, if_false, if_true, reduceIte, reduceCtorEq, not_true_eq_false, not_false_eq_true, true_and, and_true, forall_const, false_and, and_false, implies_true, Zce, Zcf, Zcg, Zch, Zci], by simp (disch := first | assumption | exact Ne.symm (by assumption) | omega) only [↓ZD, ZU, ne_eq, Zaa, Zab, false_implies, Zac, Zad, Zae, Zaf, Zag, Zah, Zai, Zaj, Zak, Zal, Zam, Zan, Zao, Zap, Zaq, Zar, Zas, Zat, Zau, Zav, Zaw, Zax, Zay, Zaz, Za0, Za1, Za2, Za3, Za4, Za5, Za6, Za7, Za8, Za9, Zba, Zbb, Zbc, Zbd, Zbe, Zbf, Zbg, Zbh, Zbi, Zbj, Zbk, Zbl, Zbm, Zbn, Zbo, Zbp, Zbq, Zbr, Zbs, Zbt, Zbu, Zbv, Zbw, Zbx, Zby, Zbz, Zb0, Zb1, Zb2, decide_true, decide_false, Zb3, Zb4, Zb5, Zb6, Zb7, Zb8, Zb9, Zca, Zcb, Zcc, Zcd, beq_self_eq_true, cond_true, cond_false, if_false, if_true, reduceIte, reduceCtorEq, not_true_eq_false, not_false_eq_true, true_and, and_true, forall_const, false_and, and_false, implies_true, Zce, Zcf, Zcg, Zch, Zci], by simp (disch := first | assumption | exact Ne.symm (by assumption) | omega) only [↓ZD, ZU, ne_eq, Zaa, Zab, false_implies, Zac, Zad, Zae, Zaf, Zag, Zah, Zai, Zaj, Zak, Zal, Zam, Zan, Zao, Zap, Zaq, Zar, Zas, Zat, Zau, Zav, Zaw, Zax, Zay, Zaz, Za0, Za1, Za2, Za3, Za4, Za5, Za6, Za7, Za8, Za9, Zba, Zbb, Zbc, Zbd, Zbe, Zbf, Zbg, Zbh, Zbi, Zbj, Zbk, Zbl, Zbm, Zbn, Zbo, Zbp, Zbq, Zbr, Zbs, Zbt, Zbu, Zbv, Zbw, Zbx, Zby, Zbz, Zb0, Zb1, Zb2, decide_true, decide_false, Zb3, Zb4, Zb5, Zb6, Zb7, Zb8, Zb9, Zca, Zcb, Zcc, Zcd, beq_self_eq_true, cond_true, cond_false, if_false, if_true, reduceIte, reduceCtorEq, not_true_eq_false, not_false_eq_true, true_and, and_true, forall_const, false_and, and_false, implies_true, Zce, Zcf, Zcg, Zch, Zci], by simp (disch := first | assumption | exact Ne.symm (by assumption) | omega) only [↓ZD, ZU, ne_eq, Zaa, Zab, false_implies, Zac, Zad, Zae, Zaf, Zag, Zah, Zai, Zaj, Zak, Zal, Zam, Zan, Zao, Zap, Zaq, Zar, Zas, Zat, Zau, Zav, Zaw, Zax, Zay, Zaz, Za0, Za1, Za2, Za3, Za4, Za5, Za6, Za7, Za8, Za9, Zba, Zbb, Zbc, Zbd, Zbe, Zbf, Zbg, Zbh, Zbi, Zbj, Zbk, Zbl, Zbm, Zbn, Zbo, Zbp, Zbq, Zbr, Zbs, Zbt, Zbu, Zbv, Zbw, Zbx, Zby, Zbz, Zb0, Zb1, Zb2, decide_true, decide_false, Zb3, Zb4, Zb5, Zb6, Zb7, Zb8, Zb9, Zca, Zcb, Zcc, Zcd, beq_self_eq_true, cond_true, cond_false, if_false, if_true, reduceIte, reduceCtorEq, not_true_eq_false, not_false_eq_true, true_and, and_true, forall_const, false_and, and_false, implies_true, Zce, Zcf, Zcg, Zch, Zci], HLe.of ?_⟩
                    refine Okh.lk (A := [_, _, _, _, _]) hoh3 ?_
                    simp only [List.forall_mem_cons]
                    exact ⟨hne9, fun e he => hq4 e (hq e he), fun e he => hq3 e (hq e he), fun e he => hq2 e (hq e he), fun e he => hq1 e (hq e he), fun e he => by cases he⟩
          · have hd : decide ((i : Int) < (ats.length : Int)) = false := by simp; omega
            obtain rfl : i = ats.length := by omega
            rw [List.drop_eq_nil_of_le (by omega), List.drop_eq_nil_of_le (by omega), show joinA [] [] = some [] from by simp [joinA]] at hja
            simp only [Option.map_some, List.append_nil] at hja
            have hup : ∀ o, upd (Ho ++ Hx) b3 o = Ho ++ Hx := fun o => upd_new fun e he => (hap e he).2.1
            obtain ⟨_, _, _, _⟩ := hb4
            obtain ⟨_, _, _⟩ := hb3
            obtain ⟨_, _⟩ := hb2
            obtain ⟨base, cap, rfl, hcap⟩ := ho.len_le
            simp (disch := first | assumption | exact Ne.symm (by assumption) | omega) only [hF3, hF4, hd, hup, ↓ZD, ZU, ne_eq, Zaa, Zab, false_implies, Zac, Zad, Zae, Zaf, Zag, Zah, Zai, Zaj, Zak, Zal, Zam, Zan, Zao, Zap, Zaq, Zar, Zas, Zat, Zau, Zav, Zaw, Zax, Zay, Zaz, Za0, Za1, Za2, Za3, Za4, Za5, Za6, Za7, Za8, Za9, Zba, Zbb, Zbc, Zbd, Zbe, Zbf, Zbg, Zbh, Zbi, Zbj, Zbk, Zbl, Zbm, Zbn, Zbo, Zbp, Zbq, Zbr, Zbs, Zbt, Zbu, Zbv, Zbw, Zbx, Zby, Zbz, Zb0, Zb1, Zb2, decide_true, decide_false, Zb3, Zb4, Zb5, Zb6, Zb7, Zb8, Zb9, Zca, Zcb, Zcc, Zcd, beq_self_eq_true, cond_true, cond_false, if_false, if_true, reduceIte, reduceCtorEq, not_true_eq_false, not_false_eq_true, true_and, and_true, forall_const, false_and, and_false, implies_true, Zce, Zcf, Zcg, Zch, Zci]
            rw [hja]
            refine ⟨Ho ++ Hx, by intro e he; simp at he; simp [he], _, _, rfl, rfl, ?_, hoh⟩
            rcases ho.out with ⟨rfl, h0, hv, rfl⟩ | ⟨b, cap, sp, hv, rfl, hFb, hl, hs, hc, hm⟩
            all_goals rw [hv]
            · obtain rfl : r = [] := List.eq_nil_of_length_eq_zero (by omega)
              exact RepT.mk 8 [] none 0 none 0 [] [] (fun _ => []) (fun _ => []) (by omega) (by simp) (by simp) (by simp) (by simp) (by simp) (by simp) (by simp) (by simp) (by simp)
            · have h := rep_rec (G := rdObj F ([(b, .cells (rows ++ sp).toArray 30 (0, 0))] ++ Hx)) (b := b) (cap := cap) (r := r) (rows := rows) (sp := sp) (by simp [rdObj, hFb, lk]) (hrw.mono fun b o h => rdObj_app had h) (by rw [hrl]; exact hl) (by omega) (by omega)
              rw [hrl] at h
              exact h
        · rw [if_neg (by rintro ⟨rfl, rfl, h⟩; rw [h] at hr; simp at hr)]
          exact ⟨[], by simp, _, _, rfl, rfl, rfl, rfl⟩
end Go.Proofs.Ytdljgcicncegkaa
