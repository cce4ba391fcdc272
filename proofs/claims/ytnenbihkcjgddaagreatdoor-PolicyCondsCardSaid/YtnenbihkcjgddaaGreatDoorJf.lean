/- Joined. -/
import Derived.Test.YtnenbihkcjgddaaGreatDoorJe
import Derived.Test.YtnenbihkcjgddaaGreatDoorJb
set_option linter.unusedSectionVars false
namespace Go.Proofs.YtnenbihkcjgddaaGreatDoor
open Go Go.Eng
set_option maxHeartbeats 1000000
set_option linter.unusedSimpArgs false
set_option linter.unusedVariables false
set_option linter.unusedSectionVars false
set_option maxRecDepth 20000
def WsEnd (ws : Ws) : Prop := ∀ i : Nat, i < ws.length → (ws.getD i ((0, [], 0), 0)).1.1 ≠ 0 → i + 1 < ws.length
def InS (ws : Ws) (s : St) : Prop := 0 ≤ s.p ∧ s.p < ws.length
def Inn (ws : Ws) (s t : St) : Prop := t.e = 0 → s.e = 0 ∧ (InS ws s → InS ws t)
theorem Inn.refl {ws : Ws} {s : St} : Inn ws s s := fun h => ⟨h, id⟩
theorem Inn.trans {ws : Ws} {s t u : St} (h1 : Inn ws s t) (h2 : Inn ws t u) : Inn ws s u := fun h => by
 obtain ⟨a, b⟩ := h2 h
 obtain ⟨c, d⟩ := h1 a
 exact ⟨c, fun x => b (d x)⟩
theorem Inn.fail {ws : Ws} {s : St} {e : Int} (he : e ≠ 0) : Inn ws s (failS ws s e) := fun h => absurd h (failS_e he)
section
variable {ws : Ws} (hE : WsEnd ws)
include hE
theorem in_next {s : St} (h : InS ws s) (hk : wk ws s ≠ 0) : InS ws (adv s) := by
 obtain ⟨h1, h2⟩ := h
 obtain ⟨i, hi⟩ : ∃ i : Nat, s.p = i := ⟨s.p.toNat, by omega⟩
 have hlt : i < ws.length := by omega
 unfold wk at hk
 rw [hi, wdAt_in hlt] at hk
 have := hE i hlt (by omega)
 exact ⟨by show 0 ≤ s.p + 1; omega, by show s.p + 1 < ws.length; omega⟩
theorem Inn.adv {s : St} (hk : wk ws s ≠ 0) : Inn ws s (adv s) := fun h => ⟨h, fun x => in_next hE x hk⟩
theorem is_wk {s : St} {t : Str} (h : isS ws s t = true) : wk ws s ≠ 0 := by
 unfold isS at h
 simp only [Bool.and_eq_true, Bool.or_eq_true, beq_iff_eq] at h
 omega
theorem Inn.is {s : St} {t : Str} (h : isS ws s t = true) : Inn ws s (Go.Proofs.YtnenbihkcjgddaaGreatDoor.adv s) := Inn.adv hE (is_wk hE h)
theorem Inn.must {s : St} {t : Str} : Inn ws s (mustS ws s t) := by
 unfold mustS; split
 ·rename_i h; exact Inn.is hE h
 ·exact Inn.fail (by decide)
theorem Inn.take {s : St} {k : Int} (hk : k ≠ 0) : Inn ws s (takeS ws s k).2 := by
 unfold takeS; split
 ·rename_i h; exact Inn.adv hE (by rw [h.2]; exact hk)
 ·exact Inn.fail (by decide)
theorem pathL_in : ∀ (n j : Nat), ws.length - j ≤ n → j < ws.length → j + (pathL (ws.drop j)).2 < ws.length
 | 0, j, hn, hj => by omega
 | n + 1, j, hn, hj => by
  rw [List.drop_eq_getElem_cons hj]
  by_cases h2 : j + 1 < ws.length
  ·rw [List.drop_eq_getElem_cons h2, pathL]
   split
   ·rename_i hm
    rw [Bool.and_eq_true, beq_iff_eq] at hm
    have h3 := hE (j + 1) h2 (by rw [List.getD_eq_getElem?_getD, List.getElem?_eq_getElem h2]; show (ws[j + 1]).1.1 ≠ 0; omega)
    have := pathL_in n (j + 1 + 1) (by omega) (by omega)
    simp only
    omega
   ·exact hj
  ·rw [List.drop_eq_nil_of_le (by omega)]
   exact hj
theorem Inn.path {s : St} : Inn ws s (pathS ws s).2 := by
 unfold pathS pathT
 have h1 : Inn ws s (if wtx ws s ∈ ownL then failS ws s 10 else s) := by split; exact Inn.fail (by decide); exact Inn.refl
 generalize (if wtx ws s ∈ ownL then failS ws s 10 else s) = u at *
 have h2 := h1.trans (Inn.take hE (k := 1) (by decide))
 split
 ·intro h
  obtain ⟨a, b⟩ := h2 ‹_›
  refine ⟨a, fun x => ?_⟩
  obtain ⟨c, d⟩ := b x
  have := pathL_in hE (ws.length - (takeS ws u 1).2.p.toNat) (takeS ws u 1).2.p.toNat (Nat.le_refl _) (by omega)
  exact ⟨by simp only; omega, by simp only; omega⟩
 ·exact h2
theorem Inn.uid {s : St} : Inn ws s (uidS ws s).2 := by
 unfold uidS
 exact ((Inn.path hE).trans (Inn.must hE)).trans (Inn.take hE (by decide))
theorem Inn.head {op : Int} {ns : List Str} {s : St} : Inn ws s (headS ws op ns s).2 := by
 unfold headS; split
 ·exact (Inn.take hE (by split <;> decide)).trans (Inn.must hE)
 ·exact Inn.refl
theorem Inn.name {s : St} (hk : wk ws s = 1) : Inn ws s (nameG ws s).2 := by
 have ha : Inn ws s (Go.Proofs.YtnenbihkcjgddaaGreatDoor.adv s) := Inn.adv hE (by rw [hk]; decide)
 unfold nameG
 split
 ·exact ha
 ·split
  ·exact Inn.uid hE
  ·split
   ·exact ha
   ·exact Inn.fail (by decide)
end
def GoesI (ws : Ws) (g : NT → St → Option (Ex' × St)) : Prop := ∀ nt s y, g nt s = some y → Inn ws s y.2
section
variable {ws : Ws} {g : NT → St → Option (Ex' × St)} (hE : WsEnd ws) (hg : GoesI ws g)
include hE hg
theorem gi_choice {s : St} {y : Ex' × St} (h : choiceG ws g s = some y) : Inn ws s y.2 := by
 unfold choiceG at h
 split at h
 ·rename_i hi
  obtain ⟨a, h1, h⟩ := bind_some h
  obtain ⟨b, h2, h⟩ := bind_some h
  obtain ⟨c, h3, rfl⟩ := map_some' h
  exact (((((Inn.is hE hi).trans (hg _ _ _ h1)).trans (Inn.must hE)).trans (hg _ _ _ h2)).trans (Inn.must hE)).trans (hg _ _ c h3)
 ·exact hg _ _ _ h
theorem gi_rel {s : St} {y : Ex' × St} (h : relG ws g s = some y) : Inn ws s y.2 := by
 obtain ⟨a, h1, h⟩ := bind_some h
 have h0 := hg _ _ _ h1
 iterate 7 (split at h; (rename_i hi; obtain ⟨b, h2, rfl⟩ := map_some' h; exact (h0.trans (Inn.is hE hi)).trans (hg _ _ b h2)))
 split at h
 ·rename_i hi; simp only [Option.some.injEq] at h; subst h; exact (h0.trans (Inn.is hE hi)).trans (Inn.take hE (by decide))
 split at h
 ·rename_i hi; simp only [Option.some.injEq] at h; subst h; exact (h0.trans (Inn.is hE hi)).trans (Inn.path hE)
 simp only [Option.some.injEq] at h; subst h; exact h0
theorem gi_pref {s : St} {y : Ex' × St} (h : prefG ws g s = some y) : Inn ws s y.2 := by
 unfold prefG at h
 split at h
 ·rename_i hi; obtain ⟨b, h2, rfl⟩ := map_some' h; exact (Inn.is hE hi).trans (hg _ _ b h2)
 ·split at h
  ·rename_i hi; obtain ⟨b, h2, rfl⟩ := map_some' h; exact (Inn.is hE hi).trans (hg _ _ b h2)
  ·exact hg _ _ _ h
theorem gi_mems {x : Ex'} {s : St} {y : Ex' × St} (h : memsG ws g x s = some y) : Inn ws s y.2 := by
 unfold memsG at h
 split at h
 ·rename_i hi; exact (((Inn.is hE hi).trans (Inn.take hE (by decide))).trans (Inn.must hE)).trans (hg _ _ _ h)
 ·split at h
  ·rename_i hi
   simp only at h
   have h0 := (Inn.is hE hi).trans (Inn.take hE (k := 1) (by decide))
   split at h
   ·exact h0.trans (hg _ _ _ h)
   ·rename_i hj
    split at h
    ·simp only [Option.some.injEq] at h; subst h; exact h0.trans (Inn.fail (by decide))
    ·obtain ⟨b, h2, h⟩ := bind_some h
     exact (((h0.trans (Inn.is hE (by simpa using hj))).trans (hg _ _ _ h2)).trans (Inn.must hE)).trans (hg _ _ _ h)
  ·simp only [Option.some.injEq] at h; subst h; exact Inn.refl
theorem gi_its {op : Int} {ns : List Str} {ks : List Ex'} {s : St} {y : Ex' × St} (h : itsG ws g op ns ks s = some y) : Inn ws s y.2 := by
 unfold itsG at h
 obtain ⟨a, h1, h⟩ := bind_some h
 have h0 := (Inn.head hE).trans (hg _ _ _ h1)
 split at h
 ·rename_i hi; simp only [Option.some.injEq] at h; subst h; exact h0.trans (Inn.is hE hi)
 ·exact (h0.trans (Inn.must hE)).trans (hg _ _ _ h)
theorem gi_items {op : Int} {s : St} {y : Ex' × St} (h : itemsG ws g op s = some y) : Inn ws s y.2 := by
 unfold itemsG at h
 split at h
 ·rename_i hi; simp only [Option.some.injEq] at h; subst h; exact Inn.is hE hi
 ·exact hg _ _ _ h
theorem gi_prim {s : St} {y : Ex' × St} (h : primG ws g s = some y) : Inn ws s y.2 := by
 unfold primG at h
 split at h
 ·rename_i hk; simp only [Option.some.injEq] at h; subst h; exact Inn.adv hE (by rw [hk]; decide)
 split at h
 ·rename_i hk; simp only [Option.some.injEq] at h; subst h; exact Inn.adv hE (by rw [hk]; decide)
 split at h
 ·rename_i hk
  split at h
  ·simp only [Option.some.injEq] at h; subst h; exact Inn.adv hE (by rw [hk]; decide)
  ·simp only [Option.some.injEq] at h; subst h; exact Inn.fail (by decide)
 split at h
 ·rename_i hk; simp only [Option.some.injEq] at h; subst h; exact Inn.name hE hk
 split at h
 ·rename_i hi; obtain ⟨b, h2, rfl⟩ := map_some' h; exact ((Inn.is hE hi).trans (hg _ _ b h2)).trans (Inn.must hE)
 split at h
 ·rename_i hi; exact (Inn.is hE hi).trans (gi_items hE hg h)
 split at h
 ·rename_i hi; exact (Inn.is hE hi).trans (gi_items hE hg h)
 ·simp only [Option.some.injEq] at h; subst h; exact Inn.fail (by decide)
theorem gi_step {nt : NT} {s : St} {y : Ex' × St} (h : stepG ws g nt s = some y) : Inn ws s y.2 := by
 cases nt with
 | expr =>
  simp only [stepG] at h
  split at h
  ·simp only [Option.some.injEq] at h; subst h; exact Inn.fail (by decide)
  ·obtain ⟨b, h2, rfl⟩ := map_some' h; exact (gi_choice hE hg h2 : Inn ws (inn s) b.2)
 | lev k =>
  obtain ⟨a, h1, h⟩ := bind_some h
  exact (hg _ _ _ h1).trans (hg _ _ _ h)
 | rows k x =>
  simp only [stepG] at h
  split at h
  ·simp only [Option.some.injEq] at h; subst h; exact Inn.refl
  ·rename_i ho
   have hi : ∃ t, isS ws s t = true := by
    match k with
    | 0 => simp only [opAt] at ho; exact ⟨_, by by_cases h : isS ws s [124, 124] = true; exact h; exact absurd (if_neg h) ho⟩
    | 1 => simp only [opAt] at ho; exact ⟨_, by by_cases h : isS ws s [38, 38] = true; exact h; exact absurd (if_neg h) ho⟩
    | 2 =>
     simp only [opAt] at ho
     by_cases h : isS ws s [43] = true
     ·exact ⟨_, h⟩
     ·rw [if_neg h] at ho
      exact ⟨_, by by_cases h : isS ws s [45] = true; exact h; exact absurd (if_neg h) ho⟩
    | k + 3 => simp only [opAt] at ho; exact ⟨_, by by_cases h : isS ws s [42] = true; exact h; exact absurd (if_neg h) ho⟩
   obtain ⟨t, hi⟩ := hi
   obtain ⟨a, h1, h⟩ := bind_some h
   exact ((Inn.is hE hi).trans (hg _ _ _ h1)).trans (hg _ _ _ h)
 | rel => exact gi_rel hE hg h
 | unary =>
  simp only [stepG] at h
  split at h
  ·simp only [Option.some.injEq] at h; subst h; exact Inn.fail (by decide)
  ·obtain ⟨b, h2, rfl⟩ := map_some' h; exact (gi_pref hE hg h2 : Inn ws (inn s) b.2)
 | member =>
  obtain ⟨a, h1, h⟩ := bind_some h
  exact (hg _ _ _ h1).trans (hg _ _ _ h)
 | mems x => exact gi_mems hE hg h
 | prim => exact gi_prim hE hg h
 | its op ns ks => exact gi_its hE hg h
end
theorem G_in {ws : Ws} (hE : WsEnd ws) : ∀ n, GoesI ws (G ws n)
 | 0 => fun _ _ _ h => by obtain ⟨_, rfl⟩ := G_zero h; exact Inn.refl
 | n + 1 => fun nt s y h => by
  rw [G_succ] at h
  split at h
  ·exact gi_step hE (G_in hE n) h
  ·simp only [Option.some.injEq] at h; subst h; exact Inn.refl
theorem w1_end : ∀ (n a : Nat) (s : List UInt8) (l : List (Wd × Nat)), s.length < n → w1 n a s = .ok l → l ≠ [] ∧ WsEnd l
 | 0, _, s, l, hn, h => by omega
 | n + 1, a, s, l, hn, h => by
  rw [w1] at h
  split at h
  ·injection h with h; subst h
   exact ⟨by simp, fun i hi hk => by
    obtain rfl : i = 0 := by simpa using hi
    simp at hk⟩
  ·rename_i hne
   split at h
   ·cases h
   ·rename_i w m hk
    split at h
    ·cases h
    ·rename_i l' hl
     injection h with h; subst h
     have h1 := tok_len hk
     have hpos : 0 < s.length := List.length_pos_iff.2 hne
     have h2 : (s.drop (m + blankN (s.drop m))).length < n := by rw [List.length_drop]; omega
     obtain ⟨i1, i2⟩ := w1_end n _ _ l' h2 hl
     have hl' := List.length_pos_iff.2 i1
     refine ⟨by simp, fun i hi hk => ?_⟩
     cases i with
     | zero => rw [List.length_cons]; omega
     | succ i =>
      rw [List.length_cons] at hi ⊢
      have := i2 i (by omega) (by simpa using hk)
      omega
theorem words_end {s : List UInt8} {l : List (Wd × Nat)} (h : words s = .ok l) : WsEnd l :=
 (w1_end _ _ _ l (by rw [List.length_drop]; omega) h).2
theorem read_in {ws : Ws} (hE : WsEnd ws) {i : Int} (hi : 0 ≤ i ∧ i < ws.length) (he : (readS ws i).2.2.1 = 0) : 0 ≤ (readS ws i).2.1 ∧ (readS ws i).2.1 < ws.length ∧ (depX (readS ws i).1 : Int) ≤ 2 * ws.length := by
 obtain ⟨n, hn⟩ := runG_ex ws .expr (st0 i)
 unfold readS at *
 split at he
 ·rename_i h0
  rw [if_pos h0]
  have h1 := (G_in hE n _ _ _ hn h0).2 hi
  have h2 := G_dp ws n _ _ _ hn h0
  have e0 : depN .expr = 0 := rfl
  have e1 : (st0 i).p = i := rfl
  rw [e0, e1] at h2
  obtain ⟨a, b⟩ := h1
  exact ⟨a, b, by simp only at h2 ⊢; omega⟩
 ·exact absurd he ‹_›
end Go.Proofs.YtnenbihkcjgddaaGreatDoor
namespace Go.Proofs.YtnenbihkcjgddaaGreatDoor
open Go Go.Eng
set_option maxHeartbeats 1000000
set_option linter.unusedSimpArgs false
set_option linter.unusedVariables false
set_option maxRecDepth 20000
theorem same_pure (F : Base) {cs : List Value} {x : Ex'} (h : RepP F cs x) : ∀ {cs' : List Value}, RepP F cs' x → PureV Tryz.prog F 12 #[.agg cs.toArray, .agg cs'.toArray] (.bool true) := by
 induction h with
 | mk op v nm a1 c1 kids g1 vn names hop hk hn hl1 hc1 h1 r1 hN i1 =>
  intro cs' h'
  cases h' with
  | mk _ _ _ a2 c2 _ g2 vn2 _ _ _ _ _ hc2 h2 r2 hN2 =>
   obtain ⟨an, cn, rfl, hcn, hln, hsn⟩ := hN
   obtain ⟨am, cm, rfl, hcm, -, hsm⟩ := hN2
   refine pureV_of_svc mixed Tryz.func12 low12 (Nat.le_of_ble_eq_true rfl) (fun w0 => ?_)
   unfold xcells
   simp (disch := first | assumption | exact Ne.symm (by assumption) | omega) only [fu12, ↓ZD, ZW, simprocAttr]
   refine NewB.of fun b1 hb1 hF1 => ?_
   simp (disch := first | assumption | exact Ne.symm (by assumption) | omega) only [hF1, ↓ZD, ZW, simprocAttr]
   refine NewB.of fun b2 hb2 hF2 => ?_
   simp only [List.forall_mem_cons, List.not_mem_nil, false_implies, implies_true, and_true] at hb2
   simp (disch := first | assumption | exact Ne.symm (by assumption) | omega) only [hF1, hF2, bne_self_eq_false, Bool.or_self, eq_self, beq_self_eq_true, ↓ZD, ZW, simprocAttr]
   refine LoopL.inv (α := Nat) (fun i => i ≤ names.length) (fun i => [(2, some (.pointer (some ⟨b1, 0, none⟩))), (3, some (.pointer (some ⟨b2, 0, none⟩))), (5, some (.int .i64 i))])
    (fun i => [(b2, .cells (xcells op v (.slice none 0 0) (.slice none 0 0) nm (.slice a2 kids.length c2) (.slice am names.length cm)).toArray 39 (0, 0)), (b1, .cells (xcells op v (.slice none 0 0) (.slice none 0 0) nm (.slice a1 kids.length c1) (.slice an names.length cn)).toArray 39 (0, 0))]) (fun i => names.length - i) 0 (Nat.zero_le _) (by (simp (disch := first | assumption | exact Ne.symm (by assumption) | omega) only [↓ZD, ZW, simprocAttr]; try trivial)) (by simp only [HLe_nil, HLe_cons, xcells]; simp (disch := first | assumption | exact Ne.symm (by assumption) | omega) only [↓ZD, ZW, simprocAttr]) ?_
   rintro i hi
   by_cases hlt : i < names.length
   ·have hd : decide ((i : Int) < (names.length : Int)) = true := by simp; omega
    have gs := getS hlt
    obtain ⟨ba, oa, rfl, hla⟩ := (hsn.1 i _ gs).ld1
    obtain ⟨bb, ob, rfl, hlb⟩ := (hsm.1 i _ gs).ld1
    unfold xcells
    simp (disch := first | assumption | exact Ne.symm (by assumption) | omega) only [hF1, hF2, bne_self_eq_false, Bool.or_self, eq_self, beq_self_eq_true, hd, ↓ZD, ZW, simprocAttr]
    refine conj.of (by omega) ?_
    simp (disch := first | assumption | exact Ne.symm (by assumption) | omega) only [hF1, hF2, bne_self_eq_false, Bool.or_self, eq_self, beq_self_eq_true, hd, Int.toNat_natCast, ↓hla, ↓hlb, ↓ZD, ZW, simprocAttr]
    refine conj.of (by omega) ?_
    simp (disch := first | assumption | exact Ne.symm (by assumption) | omega) only [hF1, hF2, bne_self_eq_false, Bool.or_self, eq_self, beq_self_eq_true, hd, Int.toNat_natCast, ↓hla, ↓hlb, ↓ZD, ZW, simprocAttr]
    refine invK.on (i + 1) (by omega) (by omega) ?_ ?_
    ·simp only [Le_nil, Le_cons]
     simp (disch := first | assumption | exact Ne.symm (by assumption) | omega) only [↓ZD, ZW, simprocAttr]
     first | done | rfl | exact ⟨rfl, rfl⟩
    ·simp only [HLe_nil, HLe_cons, xcells]
     simp (disch := first | assumption | exact Ne.symm (by assumption) | omega) only [↓ZD, ZW, simprocAttr]
   obtain rfl : i = names.length := by omega
   have hd : decide ((names.length : Int) < (names.length : Int)) = false := by simp
   unfold xcells
   simp (disch := first | assumption | exact Ne.symm (by assumption) | omega) only [hF1, hF2, bne_self_eq_false, Bool.or_self, eq_self, beq_self_eq_true, hd, ↓ZD, ZW, simprocAttr]
   refine LoopL.inv (α := Nat) (fun i => i ≤ kids.length) (fun i => [(2, some (.pointer (some ⟨b1, 0, none⟩))), (3, some (.pointer (some ⟨b2, 0, none⟩))), (6, some (.int .i64 i))])
    (fun i => [(b2, .cells (xcells op v (.slice none 0 0) (.slice none 0 0) nm (.slice a2 kids.length c2) (.slice am names.length cm)).toArray 39 (0, 0)), (b1, .cells (xcells op v (.slice none 0 0) (.slice none 0 0) nm (.slice a1 kids.length c1) (.slice an names.length cn)).toArray 39 (0, 0))]) (fun i => kids.length - i) 0 (Nat.zero_le _) (by (simp (disch := first | assumption | exact Ne.symm (by assumption) | omega) only [↓ZD, ZW, simprocAttr]; try trivial)) (by simp only [HLe_nil, HLe_cons, xcells]; simp (disch := first | assumption | exact Ne.symm (by assumption) | omega) only [↓ZD, ZW, simprocAttr]) ?_
   rintro i hi
   by_cases hlt : i < kids.length
   ·have hd : decide ((i : Int) < (kids.length : Int)) = true := by simp; omega
    have gx := getX hlt
    have hc := i1 i _ gx (r2 i _ gx)
    obtain ⟨q1, q2, q3, q4, q5, q6, q7, q8, q9, q10, q11, q12, q13, q14, q15, q16, q17, q18, q19, q20, e1⟩ := (r1 i _ gx).toX.form
    obtain ⟨p1, p2, p3, p4, p5, p6, p7, p8, p9, p10, p11, p12, p13, p14, p15, p16, p17, p18, p19, p20, e2⟩ := (r2 i _ gx).toX.form
    obtain ⟨ba, oa, rfl, hla⟩ := (h1 i _ gx).ldn
    obtain ⟨bb, ob, rfl, hlb⟩ := (h2 i _ gx).ldn
    rw [e1, e2] at hc
    rw [e1] at hla
    rw [e2] at hlb
    unfold xcells
    simp (disch := first | assumption | exact Ne.symm (by assumption) | omega) only [hF1, hF2, bne_self_eq_false, Bool.or_self, eq_self, beq_self_eq_true, hd, ↓ZD, ZW, simprocAttr]
    refine conj.of (by omega) ?_
    simp (disch := first | assumption | exact Ne.symm (by assumption) | omega) only [hF1, hF2, bne_self_eq_false, Bool.or_self, eq_self, beq_self_eq_true, hd, Int.toNat_natCast, ↓hla, ↓hlb, ↓ZD, ZW, simprocAttr]
    refine conj.of (by omega) ?_
    simp (disch := first | assumption | exact Ne.symm (by assumption) | omega) only [hF1, hF2, bne_self_eq_false, Bool.or_self, eq_self, beq_self_eq_true, hd, Int.toNat_natCast, ↓hla, ↓hlb, ↓ZD, ZW, simprocAttr]
    refine CallQ.of _ (hc.up) ?_
    simp (disch := first | assumption | exact Ne.symm (by assumption) | omega) only [hF1, hF2, bne_self_eq_false, Bool.or_self, eq_self, beq_self_eq_true, ↓ZD, ZW, simprocAttr]
    refine invK.on (i + 1) (by omega) (by omega) ?_ ?_
    ·simp only [Le_nil, Le_cons]
     simp (disch := first | assumption | exact Ne.symm (by assumption) | omega) only [↓ZD, ZW, simprocAttr]
     first | done | rfl | exact ⟨rfl, rfl⟩
    ·simp only [HLe_nil, HLe_cons, xcells]
     simp (disch := first | assumption | exact Ne.symm (by assumption) | omega) only [↓ZD, ZW, simprocAttr]
   obtain rfl : i = kids.length := by omega
   have hd : decide ((kids.length : Int) < (kids.length : Int)) = false := by simp
   unfold xcells
   simp (disch := first | assumption | exact Ne.symm (by assumption) | omega) only [hF1, hF2, bne_self_eq_false, Bool.or_self, eq_self, beq_self_eq_true, hd, ↓ZD, ZW, simprocAttr]
end Go.Proofs.YtnenbihkcjgddaaGreatDoor
namespace Go.Proofs.YtnenbihkcjgddaaGreatDoor
open Go Go.Eng
set_option maxHeartbeats 1000000
set_option linter.unusedSimpArgs false
set_option linter.unusedVariables false
set_option maxRecDepth 20000
def parseL (l : Ws) (R : Ex' × Int × Int × Int) : Ex' × Int × Int :=
 if R.2.2.1 ≠ 0 then (nilX, R.2.2.1, R.2.2.2) else if ((wdAt l R.2.1).1.1 : Int) ≠ 0 then (nilX, 10, (wdAt l R.2.1).2) else if 50 < depX R.1 then (nilX, 11, 0) else (R.1, 0, 0)
def parseS (s : Str) : Ex' × Int × Int := if 65536 < s.length then (nilX, 12, 0) else match words s with
 | .error y => (nilX, y.1, y.2)
 | .ok l => parseL l (readS l 0)
def ParseP (F : Base) (R : Ex' × Int × Int) (r : Value) (H' : Hp) : Prop := ∃ cs, r = .tuple #[.agg cs.toArray, .int .i64 R.2.1, .int .i64 R.2.2] ∧ Ok12 cs ∧ RepP (rdObj F H') cs R.1
theorem tok_err' {s : List UInt8} {e : Int} (h : tok s = .error e) : e ≠ 0 := by
 unfold tok at h
 split at h
 ·injection h with h; subst h; assumption
 ·split at h
  ·injection h with h; subst h; decide
  ·cases h
theorem w1_err : ∀ (n a : Nat) (s : List UInt8) (y : Int × Nat), w1 n a s = .error y → y.1 ≠ 0
 | 0, _, _, y, h => by rw [w1] at h; cases h
 | n + 1, a, s, y, h => by
  rw [w1] at h
  split at h
  ·cases h
  ·split at h
   ·rename_i hk
    injection h with h; subst h
    exact tok_err' hk
   ·split at h
    ·rename_i hw
     injection h with h; subst h
     exact w1_err n _ _ _ hw
    ·cases h
theorem cellsW_nil {l : Ws} (h : cellsW l = []) : l = [] := by
 have := cellsW_len l
 rw [h] at this
 exact List.eq_nil_of_length_eq_zero (by simp only [List.length_nil] at this; omega)
theorem rparse_does (F : Base) (s : Str) (hs : s.length ≤ 9223372036854775807) : Does Tryz.prog F 10 #[.string (bs s)] [] (ParseP F (parseS s)) := by
 refine Does.shr (K := fun r H' => ∃ cs Hx, r = .tuple #[.agg cs.toArray, .int .i64 (parseS s).2.1, .int .i64 (parseS s).2.2] ∧ Ok12 cs ∧ RepP (rdObj F Hx) cs (parseS s).1 ∧ ∀ e ∈ Hx, e ∈ H') ?_ fun r H' ⟨cs, Hx, h1, h2, h3, h4⟩ => ⟨Hx, h4, cs, h1, h2, h3⟩
 refine does_of_svc (args := [.string (bs s)]) mixed Tryz.func10 low10 (Nat.le_of_ble_eq_true rfl) (fun w0 hw0 => ?_)
 simp (disch := first | assumption | exact Ne.symm (by assumption) | omega) only [fu10, ↓ZD, ZW, simprocAttr]
 refine NewB.of fun b1 hb1 hF1 => ?_
 simp (disch := first | assumption | exact Ne.symm (by assumption) | omega) only [hF1, ↓ZD, ZW, simprocAttr]
 refine CallE.news (rwords_does _ s hs) ?_
 intro v H1 hv n1 d1 up1
 have d1 : ∀ e ∈ H1, e.1 ≠ b1 := fun e he => d1 (b1, _) List.mem_cons_self e he
 clear up1
 have z0 : ((0 : Int) != 0) = false := by decide
 have z12 : ((12 : Int) != 0) = true := by decide
 unfold WordsPost at hv
 unfold parseS
 by_cases hl : 65536 < s.length
 ·rw [if_pos hl] at hv ⊢
  obtain ⟨rfl, rfl⟩ := hv
  simp (disch := first | assumption | exact Ne.symm (by assumption) | omega) only [hF1, z12, ↓ZD, ZW, simprocAttr]
  exact ⟨xcells 0 lv0 (.slice none 0 0) (.slice none 0 0) [] (.slice none 0 0) (.slice none 0 0), [], rfl, ⟨rfl, rfl, rfl, rfl⟩, repP_nil, by simp⟩
 rw [if_neg hl] at hv ⊢
 cases hw : words s with
 | error y =>
  obtain ⟨e, a⟩ := y
  rw [hw] at hv
  obtain ⟨rfl, rfl⟩ := hv
  have he := w1_err _ _ _ _ hw
  have hd : (e != 0) = true := by simpa using he
  simp (disch := first | assumption | exact Ne.symm (by assumption) | omega) only [hF1, hd, ↓ZD, ZW, simprocAttr]
  exact ⟨xcells 0 lv0 (.slice none 0 0) (.slice none 0 0) [] (.slice none 0 0) (.slice none 0 0), [], rfl, ⟨rfl, rfl, rfl, rfl⟩, repP_nil, by simp⟩
 | ok l =>
  rw [hw] at hv
  obtain ⟨v, ho, rfl⟩ := hv
  have hok := words_ok (by omega) hw
  have hne := words_ne' hw
  rcases ho.out with ⟨h0, -⟩ | ⟨bw, cap, sp, rfl, rfl, hFw, h1, h2, h3, h4⟩
  ·exact absurd (cellsW_nil h0) hne
  have hFw := rdObj_le hFw
  have nb : bw ≠ b1 := d1 _ (List.mem_singleton.2 rfl)
  simp only [List.cons_append, List.nil_append]
  simp (disch := first | assumption | exact Ne.symm (by assumption) | omega) only [hF1, hFw, z0, ↓ZD, ZW, simprocAttr]
  have hW : HasW (rdObj F [(bw, .cells (cellsW l ++ sp).toArray 71 (0, 0))]) l (.slice (some ⟨bw, 0, none⟩) l.length cap) := ⟨bw, cap, sp, _, _, rfl, rdObj_hd hFw, h3, h4, hne⟩
  refine CallG.frame (F1 := rdObj F [(bw, .cells (cellsW l ++ sp).toArray 71 (0, 0))]) (H0 := []) (Hr := [(b1, .cells zx.toArray 39 (0, 0)), (bw, .cells (cellsW l ++ sp).toArray 71 (0, 0))]) (rread_does _ hok hW 0) ?_ (fun e h => by cases h) (fun e h => h) (fun e' _ e h => by cases h) ?_
  ·exact fun _ _ h => rdObj_sub (by simp [lk, Ne.symm nb, nb]) h
  rintro r H2 ⟨cs, rfl, hc, hr, hwk⟩ n2 d2 -
  have g1 : ∀ e ∈ H2, e.1 ≠ b1 := fun e he => d2 (b1, _) List.mem_cons_self e he
  have gw : ∀ e ∈ H2, e.1 ≠ bw := fun e he => d2 (bw, _) (List.mem_cons_of_mem _ List.mem_cons_self) e he
  have hr2 : RepP (rdObj F ((bw, .cells (cellsW l ++ sp).toArray 71 (0, 0)) :: H2)) cs (readS l 0).1 := hr.mono fun _ _ h => rdObj_app (G := [_]) h
  have hin := read_in (words_end hw) (i := 0) ⟨Int.le_refl _, by have := List.length_pos_iff.2 hne; omega⟩
  have hlen := hok.1
  generalize readS l 0 = R at *
  obtain ⟨x, k, e, a⟩ := R
  unfold parseL
  simp only at hr2 hin ⊢
  clear hr n1 n2 d1 d2
  simp only [List.cons_append, List.nil_append]
  have hu1 : ∀ o, upd H2 b1 o = H2 := fun o => upd_new g1
  have c12 := hc.1
  have cok := hc.2.1
  have ht : cs.take 12 = cs := List.take_of_length_le (Nat.le_of_eq c12)
  have hz : cs.drop 12 = [] := List.drop_eq_nil_of_le (Nat.le_of_eq c12)
  simp (disch := first | assumption | exact Ne.symm (by assumption) | omega) only [hF1, hFw, hu1, c12, cok, ht, hz, ↓ZD, ZW, simprocAttr]
  refine NewB.of fun b2 hb2 hF2 => ?_
  simp only [List.forall_mem_cons, List.not_mem_nil, false_implies, implies_true, and_true] at hb2
  obtain ⟨n12, nw2, g2⟩ := hb2
  have hu2 : ∀ o, upd H2 b2 o = H2 := fun o => upd_new g2
  by_cases he : e = 0
  ·have hd : (e != 0) = false := by simpa using he
   rw [if_neg (by simpa using he)]
   obtain ⟨i1, i2, i3⟩ := hin he
   obtain ⟨i, rfl⟩ : ∃ i : Nat, k = i := ⟨k.toNat, by omega⟩
   have hlt : i < l.length := by omega
   have hld := wds_at0 (sp := sp) (T := 71) (fz := (0, 0)) hlt
   have hld3 := wds_at3 (ws := l) (sp := sp) (T := 71) (fz := (0, 0)) (i := i) hlt
   rw [wdAt_in hlt]
   by_cases hk : (((l.getD i ((0, [], 0), 0)).1.1 : Nat) : Int) = 0
   ·have hkd : ((((l.getD i ((0, [], 0), 0)).1.1 : Nat) : Int) != 0) = false := by simpa using hk
    rw [if_neg (by simpa using hk)]
    simp (disch := first | assumption | exact Ne.symm (by assumption) | omega) only [hF1, hFw, hF2, hu1, hu2, c12, cok, ht, hz, hd, ↓ZD, ZW, simprocAttr]
    refine conj.of (by omega) ?_
    simp (disch := first | assumption | exact Ne.symm (by assumption) | omega) only [hF1, hFw, hF2, hu1, hu2, c12, cok, ht, hz, hd, hkd, hld, Int.toNat_natCast, ↓ZD, ZW, simprocAttr]
    refine CallE.pureH (rdep_pure _ (hr2.mono fun _ _ h => rdObj_sub ?_ h).toX (by omega)) ?_
    ·intro e he
     rcases List.mem_cons.1 he with rfl | he
     ·simp [lk, nb, Ne.symm nb, nw2, Ne.symm nw2]
     ·have hh := hwk e he
      simp [lk, g1 e he, gw e he, g2 e he, Ne.symm (g1 e he), Ne.symm (gw e he), Ne.symm (g2 e he), hh]
    by_cases hdp : 50 < depX x
    ·have hdd : decide ((50 : Int) < (depX x : Int)) = true := by simp; omega
     rw [if_pos hdp]
     simp (disch := first | assumption | exact Ne.symm (by assumption) | omega) only [hF1, hFw, hF2, hu1, hu2, c12, cok, ht, hz, hd, hdd, ↓ZD, ZW, simprocAttr]
     exact ⟨xcells 0 lv0 (.slice none 0 0) (.slice none 0 0) [] (.slice none 0 0) (.slice none 0 0), [], rfl, ⟨rfl, rfl, rfl, rfl⟩, repP_nil, by simp⟩
    ·have hdd : decide ((50 : Int) < (depX x : Int)) = false := by simp; omega
     rw [if_neg hdp]
     simp (disch := first | assumption | exact Ne.symm (by assumption) | omega) only [hF1, hFw, hF2, hu1, hu2, c12, cok, ht, hz, hd, hdd, ↓ZD, ZW, simprocAttr]
     exact ⟨cs, _, rfl, hc, hr2, by simp +contextual⟩
   ·have hkd : ((((l.getD i ((0, [], 0), 0)).1.1 : Nat) : Int) != 0) = true := by simpa using hk
    rw [if_pos hk]
    simp (disch := first | assumption | exact Ne.symm (by assumption) | omega) only [hF1, hFw, hF2, hu1, hu2, c12, cok, ht, hz, hd, ↓ZD, ZW, simprocAttr]
    refine conj.of (by omega) ?_
    simp (disch := first | assumption | exact Ne.symm (by assumption) | omega) only [hF1, hFw, hF2, hu1, hu2, c12, cok, ht, hz, hd, hkd, hld, Int.toNat_natCast, ↓ZD, ZW, simprocAttr]
    refine TreeL.open ?_
    simp (disch := first | assumption | exact Ne.symm (by assumption) | omega) only [hF1, hFw, hF2, hu1, hu2, c12, cok, ht, hz, hd, hkd, hld, hld3, Int.toNat_natCast, ↓ZD, ZW, simprocAttr]
    refine conj.of (by omega) ?_
    simp (disch := first | assumption | exact Ne.symm (by assumption) | omega) only [hF1, hFw, hF2, hu1, hu2, c12, cok, ht, hz, hd, hkd, hld, hld3, Int.toNat_natCast, ↓ZD, ZW, simprocAttr]
    repeat' (first | exact ⟨xcells 0 lv0 (.slice none 0 0) (.slice none 0 0) [] (.slice none 0 0) (.slice none 0 0), [], rfl, ⟨rfl, rfl, rfl, rfl⟩, repP_nil, by simp⟩ | apply And.intro)
  ·have hd : (e != 0) = true := by simpa using he
   rw [if_pos he]
   simp (disch := first | assumption | exact Ne.symm (by assumption) | omega) only [hF1, hFw, hF2, hu1, hu2, c12, cok, ht, hz, hd, ↓ZD, ZW, simprocAttr]
   exact ⟨xcells 0 lv0 (.slice none 0 0) (.slice none 0 0) [] (.slice none 0 0) (.slice none 0 0), [], rfl, ⟨rfl, rfl, rfl, rfl⟩, repP_nil, by simp⟩
end Go.Proofs.YtnenbihkcjgddaaGreatDoor
namespace Go.Proofs.YtnenbihkcjgddaaGreatDoor
open Go Go.Eng
set_option maxHeartbeats 1000000
set_option linter.unusedSimpArgs false
set_option linter.unusedVariables false
set_option maxRecDepth 20000
theorem size_pure (F : Base) (a : Int) (ha : I64 a) : PureV Tryz.prog F 52 #[.int .i64 a] (.int .u64 (size a)) := by
 refine pureV_of_svc mixed Tryz.func52 low52 (Nat.le_of_ble_eq_true rfl) (fun w0 => ?_)
 simp (disch := first | assumption | exact Ne.symm (by assumption) | omega) only [fu52, ↓ZD, ZW, simprocAttr]
 unfold I64 at ha
 unfold size
 refine ⟨fun h => ?_, fun h => ?_⟩ <;> simp only [decide_eq_true_eq, decide_eq_false_iff_not] at h
 ·rw [if_pos h, wrap_u64, wrap_u64]; congr 1; omega
 ·rw [if_neg h, wrap_u64]; congr 1; omega
theorem size_bd (a : Int) (h : I64 a) : 0 ≤ size a ∧ size a ≤ 9223372036854775808 := by
 unfold I64 at h; unfold size; split <;> omega
def digs (n : Nat) : List UInt8 := if n < 10 then [UInt8.ofNat (48 + n)] else digs (n / 10) ++ [UInt8.ofNat (48 + n % 10)]
termination_by n
decreasing_by omega
theorem digs_lt {n : Nat} (h : n < 10) : digs n = [UInt8.ofNat (48 + n)] := by rw [digs, if_pos h]
theorem digs_ge {n : Nat} (h : ¬ n < 10) : digs n = digs (n / 10) ++ [UInt8.ofNat (48 + n % 10)] := by rw [digs, if_neg h]
theorem digs_len : ∀ (k n : Nat), n < 10 ^ (k + 1) → (digs n).length ≤ k + 1
 | 0, n, h => by rw [digs_lt (by omega)]; simp
 | k + 1, n, h => by
  by_cases h10 : n < 10
  ·rw [digs_lt h10]; simp
  ·have := digs_len k (n / 10) (by rw [Nat.pow_succ] at h; omega)
   rw [digs_ge h10]; simp; omega
theorem digs_len' {n : Nat} (h : n < 18446744073709551616) : (digs n).length ≤ 20 := digs_len 19 n (by omega)
def shows (a : Int) : List UInt8 := if a < 0 then 45 :: digs (-a).toNat else digs a.toNat
def showI (n : Nat) (x : Nat × Nat × List UInt8) : Prop :=
 x.2.1 + x.2.2.length = 20 ∧ x.1 ≤ n ∧ x.1 < 10 ^ x.2.1 ∧ (if x.2.2 = [] then x.1 = n else digs n = if x.1 = 0 then x.2.2 else digs x.1 ++ x.2.2)
theorem showI_0 (a : Int) (ha : I64 a) : showI (size a).toNat ((size a).toNat, 20, []) := by
 have := size_bd a ha
 refine ⟨by simp, Nat.le_refl _, ?_, by simp⟩
 show (size a).toNat < 10 ^ 20
 omega
theorem show_pure (F : Base) (a : Int) (ha : I64 a) : PureV Tryz.prog F 25 #[.int .i64 a] (.string (bs (shows a))) := by
 refine pureV_of_svc mixed Tryz.func25 low25 (Nat.le_of_ble_eq_true rfl) (fun w0 => ?_)
 simp (disch := first | assumption | exact Ne.symm (by assumption) | omega) only [fu25, ↓ZD, ZW, simprocAttr]
 refine NewB.of fun b1 hb1 hF1 => ?_
 simp (disch := first | assumption | exact Ne.symm (by assumption) | omega) only [hF1, ↓ZD, ZW, simprocAttr]
 refine CallE.pure (size_pure F a ha) ?_
 simp (disch := first | assumption | exact Ne.symm (by assumption) | omega) only [hF1, ↓ZD, ZW, simprocAttr]
 refine LoopL.inv (α := Nat × Nat × List UInt8) (showI (size a).toNat)
  (fun x => [(0, some (.int .i64 a)), (2, some (.string (bs []))), (3, some (.pointer (some ⟨b1, 0, none⟩))), (4, some (.int .i64 x.2.1)), (5, some (.int .u64 x.1))])
  (fun x => [(b1, .cells (byteCells (List.replicate x.2.1 0 ++ x.2.2)).toArray 111 (0, 0))])
  (fun x => x.2.1) ((size a).toNat, 20, []) (showI_0 a ha) ?_ ?_ ?_
 ·have := size_bd a ha
  have e : (((size a).toNat : Nat) : Int) = size a := by omega
  simp only [Le_nil, Le_cons, e]
  simp (disch := first | assumption | exact Ne.symm (by assumption) | omega) only [↓ZD, ZW, simprocAttr]
 ·refine ⟨by simp (disch := first | assumption | exact Ne.symm (by assumption) | omega) only [↓ZD, ZW, simprocAttr]; rfl, trivial⟩
 ·rintro ⟨u, i, S⟩ hI
  obtain ⟨hl, hun, hu, hd⟩ := hI
  simp only at hl hun hu hd ⊢
  have hsz := size_bd a ha
  have hdt : ((byteCells (List.replicate i 0 ++ S)).drop i).take (20 - i) = byteCells S := by
   rw [byteCells_drop, byteCells_take]; congr 1
   rw [List.drop_left' (by simp), List.take_of_length_le (by omega)]
  simp (disch := first | assumption | exact Ne.symm (by assumption) | omega) only [hF1, ↓ZD, ZW, simprocAttr]
  refine ⟨fun h => ?_, fun h => ?_⟩
  ·have hi : 0 < i := by
    cases i with
    | zero =>
     have : u = 0 := by simp at hu; omega
     subst this
     simp at h
    | succ j => omega
   have hi1 : (i : Int) - 1 = ((i - 1 : Nat) : Int) := by omega
   refine conj.of (by omega) ?_
   have hle : decide (i - 1 + 1 ≤ i + S.length) = true := by simp; omega
   have hst : List.take (i - 1) (byteCells (List.replicate i 0 ++ S)) ++ [Value.int IntKind.u8 (48 + (u : Int) % 10)] ++ List.drop (i - 1 + 1) (byteCells (List.replicate i 0 ++ S)) = byteCells (List.replicate (i - 1) 0 ++ (UInt8.ofNat (48 + u % 10)) :: S) := by
    have e1 : List.replicate i (0 : UInt8) = List.replicate (i - 1) 0 ++ [0] := by
     obtain ⟨j, rfl⟩ : ∃ j, i = j + 1 := ⟨i - 1, by omega⟩
     simp [List.replicate_succ']
    have t1 : (List.replicate i (0 : UInt8) ++ S).take (i - 1) = List.replicate (i - 1) 0 := by
     rw [e1, List.append_assoc]; exact List.take_left' (by simp)
    have t2 : (List.replicate i (0 : UInt8) ++ S).drop (i - 1 + 1) = S := List.drop_left' (by simp; omega)
    rw [byteCells_take, byteCells_drop, t1, t2]
    have e2 : (48 + (u : Int) % 10) = (((UInt8.ofNat (48 + u % 10)).toNat : Nat) : Int) := by
     simp only [UInt8.toNat_ofNat']; omega
    rw [e2]
    simp only [byteCells, List.map_append, List.map_cons, List.append_assoc, List.cons_append, List.nil_append]
   simp (disch := first | assumption | exact Ne.symm (by assumption) | omega) only [hF1, hi1, hle, hst, Nat.mul_one, Int.toNat_natCast, List.length_append, List.length_replicate, ↓ZD, ZW, simprocAttr]
   have hp : 10 ^ i = 10 * 10 ^ (i - 1) := by
    obtain ⟨j, rfl⟩ : ∃ j, i = j + 1 := ⟨i - 1, by omega⟩
    simp [Nat.pow_succ]; omega
   refine invK.on (u / 10, i - 1, UInt8.ofNat (48 + u % 10) :: S) ⟨?_, ?_, ?_, ?_⟩ ?_ ?_ ?_
   ·show i - 1 + (S.length + 1) = 20
    omega
   ·show u / 10 ≤ _
    omega
   ·show u / 10 < 10 ^ (i - 1)
    omega
   ·show (if UInt8.ofNat (48 + u % 10) :: S = [] then _ else digs (size a).toNat = if u / 10 = 0 then UInt8.ofNat (48 + u % 10) :: S else digs (u / 10) ++ UInt8.ofNat (48 + u % 10) :: S)
    rw [if_neg (by simp)]
    have hdu : digs u ++ S = if u / 10 = 0 then UInt8.ofNat (48 + u % 10) :: S else digs (u / 10) ++ UInt8.ofNat (48 + u % 10) :: S := by
     split
     ·rw [digs_lt (by omega), Nat.mod_eq_of_lt (by omega)]; rfl
     ·rw [digs_ge (by omega), List.append_assoc]; rfl
    rw [← hdu]
    split at hd
    ·subst hd; rename_i hS; subst hS; simp
    ·split at hd
     ·subst u
      exfalso
      have : i = 20 := by simp at h; omega
      have : S.length = 0 := by omega
      simp at this; contradiction
     ·exact hd
   ·show i - 1 < i
    omega
   ·have hw : IntKind.u64.wrap ((u : Int) / 10) = ((u / 10 : Nat) : Int) := by rw [wrap_u64]; omega
    simp only [Le_nil, Le_cons, hw]
    simp (disch := first | assumption | exact Ne.symm (by assumption) | omega) only [↓ZD, ZW, simprocAttr]
    rfl
   ·simp only [HLe_nil, HLe_cons]
    simp (disch := first | assumption | exact Ne.symm (by assumption) | omega) only [↓ZD, ZW, simprocAttr]
  ·have hi20 : i ≠ 20 := by
    rintro rfl; simp at h
   refine conj.of (by omega) ?_
   have hu0 : u = 0 := by
    simp at h; exact h.2
   have hle : i + (20 - i) ≤ i + S.length := by omega
   have hn : ((20 : Int) - (i : Int)).toNat = 20 - i := by omega
   simp (disch := first | assumption | exact Ne.symm (by assumption) | omega) only [hF1, hdt, hle, hn, Nat.mul_one, Int.toNat_natCast, List.length_append, List.length_replicate, ↓ZD, ZW, simprocAttr]
   have hS : S ≠ [] := by rintro rfl; simp at hl; omega
   rw [if_neg hS, if_pos hu0] at hd
   unfold shows
   unfold size at hd
   refine ⟨fun h => ?_, fun h => ?_⟩
   ·refine conj.of (by omega) ?_
    simp at h
    rw [if_pos h] at hd ⊢
    rw [hd]
    simp (disch := first | assumption | exact Ne.symm (by assumption) | omega) only [↓ZD, ZW, simprocAttr]
   ·simp at h
    rw [if_neg (by omega)] at hd ⊢
    rw [hd]
end Go.Proofs.YtnenbihkcjgddaaGreatDoor
namespace Go.Proofs.YtnenbihkcjgddaaGreatDoor
open Go Go.Eng
set_option maxHeartbeats 1000000
set_option linter.unusedSimpArgs false
set_option linter.unusedVariables false
set_option maxRecDepth 20000
structure Scp where
 kind : Int
 ty : Str
 ut : Str
 ui : Str
 slot : Bool
 list : List (Str × Str)
structure Pol where
 id : Str
 permit : Bool
 p : Scp
 a : Scp
 r : Scp
 conds : List (Bool × Ex')
def sc0 : Scp := ⟨0, [], [], [], false, []⟩
def prN : Str := [112, 114, 105, 110, 99, 105, 112, 97, 108]
def reN : Str := [114, 101, 115, 111, 117, 114, 99, 101]
def actN : Str := [97, 99, 116, 105, 111, 110]
def failA (s : St) (e bad : Int) : St := if s.e = 0 then ⟨s.p, s.deep, e, bad⟩ else s
def mustsS (ws : Ws) (s : St) (l : List Str) : St := l.foldl (mustS ws) s
def uidP (ws : Ws) (s : St) : (Str × Str) × St :=
 if s.e = 0 then (if (uidR ws s.p).2.2.1 = 0 then ((uidR ws s.p).1, ⟨(uidR ws s.p).2.1, s.deep, s.e, s.bad⟩) else (([], []), ⟨s.p, s.deep, (uidR ws s.p).2.2.1, (uidR ws s.p).2.2.2⟩)) else (([], []), s)
def placeP (ws : Ws) (s : St) (x : Scp) (nm : Str) : Scp × St :=
 if s.e = 0 ∧ wk ws s = 4 then (⟨x.kind, x.ty, x.ut, x.ui, true, x.list⟩, adv (if wtx ws s = nm then s else failS ws s 32))
 else (⟨x.kind, x.ty, (uidP ws s).1.1, (uidP ws s).1.2, x.slot, x.list⟩, (uidP ws s).2)
def kindS (k : Int) (ty : Str) : Scp := ⟨k, ty, [], [], false, []⟩
def scopeP (ws : Ws) (s : St) (nm : Str) : Scp × St :=
 let s1 := mustS ws s nm
 if isS ws s1 [61, 61] then placeP ws (adv s1) (kindS 1 []) nm
 else if isS ws s1 [105, 110] then placeP ws (adv s1) (kindS 2 []) nm
 else if isS ws s1 [105, 115] then
  let t := pathS ws (adv s1)
  if isS ws t.2 [105, 110] then placeP ws (adv t.2) (kindS 4 t.1) nm else (kindS 3 t.1, t.2)
 else (sc0, s1)
def uidsF (ws : Ws) : Nat → St → List (Str × Str) → List (Str × Str) × St
 | 0, s, l => (l, s)
 | n + 1, s, l => if isS ws (uidP ws s).2 [44] then uidsF ws n (adv (uidP ws s).2) (l ++ [(uidP ws s).1]) else (l ++ [(uidP ws s).1], (uidP ws s).2)
def actUid (k : Int) (u : (Str × Str) × St) : Scp × St := (⟨k, [], u.1.1, u.1.2, false, []⟩, u.2)
def actionP (ws : Ws) (s : St) : Scp × St :=
 let s1 := mustS ws s actN
 if isS ws s1 [61, 61] then actUid 1 (uidP ws (adv s1))
 else if isS ws s1 [105, 110] = false then (sc0, s1)
 else if isS ws (adv s1) [91] = false then actUid 2 (uidP ws (adv s1))
 else if isS ws (adv (adv s1)) [93] then (kindS 5 [], adv (adv (adv s1)))
 else (⟨5, [], [], [], false, (uidsF ws (ws.length + 1) (adv (adv s1)) []).1⟩, mustS ws (uidsF ws (ws.length + 1) (adv (adv s1)) []).2 [93])
mutual
def hasSl : Ex' → Str → Bool
 | .mk op _ nm kids _, t => (op == 3 && nm == t) || hasSlL kids t
def hasSlL : List Ex' → Str → Bool
 | [], _ => false
 | x :: l, t => hasSl x t || hasSlL l t
end
def condP (ws : Ws) (x : Pol) (wh : Bool) (s : St) : Pol × St :=
 let s1 := mustS ws s [123]
 if s1.e ≠ 0 then (x, s1)
 else
  let R := readS ws s1.p
  if R.2.2.1 ≠ 0 then (x, ⟨s1.p, s1.deep, R.2.2.1, R.2.2.2⟩)
  else
   let f := ((wdAt ws s1.p).2 : Int)
   let s2 := mustS ws ⟨R.2.1, s1.deep, s1.e, s1.bad⟩ [125]
   let s3 := if 50 < depX R.1 then failA s2 11 f else s2
   let s4 := if (!x.p.slot && hasSl R.1 prN) || (!x.r.slot && hasSl R.1 reN) then failA s3 32 f else s3
   (⟨x.id, x.permit, x.p, x.a, x.r, x.conds ++ [(wh, R.1)]⟩, s4)
def whenT : Str := [119, 104, 101, 110]
def unlT : Str := [117, 110, 108, 101, 115, 115]
def condsF (ws : Ws) : Nat → Pol → St → Pol × St
 | 0, x, s => (x, s)
 | n + 1, x, s =>
  if s.e ≠ 0 then (x, s)
  else if isS ws s whenT then condsF ws n (condP ws x true (adv s)).1 (condP ws x true (adv s)).2
  else if isS ws s unlT then condsF ws n (condP ws x false (adv s)).1 (condP ws x false (adv s)).2
  else (x, mustS ws s [59])
def idP (ws : Ws) (n : Int) (s : St) : Str × St :=
 if isS ws s [64] then
  let t := takeS ws (mustS ws (mustS ws (adv s) [105, 100]) [40]) 3
  (t.1, mustS ws t.2 [41])
 else ([112, 111, 108, 105, 99, 121] ++ shows n, s)
def permT : Str := [112, 101, 114, 109, 105, 116]
def forbT : Str := [102, 111, 114, 98, 105, 100]
def headP (ws : Ws) (n : Int) (s : St) : Pol × St :=
 let i := idP ws n s
 let b := isS ws i.2 permT
 let s2 := if b then adv i.2 else mustS ws i.2 forbT
 let p := scopeP ws (mustS ws s2 [40]) prN
 let a := actionP ws (mustS ws p.2 [44])
 let r := scopeP ws (mustS ws a.2 [44]) reN
 (⟨i.1, b, p.1, a.1, r.1, []⟩, mustS ws r.2 [41])
def policyP (ws : Ws) (n : Int) (s : St) : Pol × St := condsF ws (ws.length + 1) (headP ws n s).1 (headP ws n s).2
def polsF (ws : Ws) : Nat → List Pol → St → List Pol × St
 | 0, l, s => (l, s)
 | n + 1, l, s => if wk ws s = 0 then (l, s) else if (policyP ws l.length s).2.e ≠ 0 then ([], (policyP ws l.length s).2) else polsF ws n (l ++ [(policyP ws l.length s).1]) (policyP ws l.length s).2
def twiceB : List Str → Bool
 | [] => false
 | x :: l => l.contains x || twiceB l
def polsL (ws : Ws) : List Pol × Int × Int :=
 let r := polsF ws (ws.length + 1) [] (st0 0)
 if r.2.e ≠ 0 then ([], r.2.e, r.2.bad) else if twiceB (r.1.map Pol.id) then ([], 13, 0) else (r.1, 0, 0)
def polsS (s : Str) : List Pol × Int × Int := if 65536 < s.length then ([], 12, 0) else match words s with
 | .error y => ([], y.1, y.2)
 | .ok l => polsL l
end Go.Proofs.YtnenbihkcjgddaaGreatDoor
namespace Go.Proofs.YtnenbihkcjgddaaGreatDoor
open Go Go.Eng
set_option maxHeartbeats 1000000
set_option linter.unusedSimpArgs false
set_option linter.unusedVariables false
set_option maxRecDepth 20000
abbrev RdP (l : Value) (p : St) : Obj := .cells #[l, .int .i64 p.p, .int .i64 p.e, .int .i64 p.bad] 60 (0, 0)
def EndW (ws : Ws) : Prop := (ws.getD (ws.length - 1) ((0, [], 0), 0)).1 = (0, [], 0)
theorem wdAt_end {ws : Ws} (hE : EndW ws) {p : Int} (h : ¬ (0 ≤ p ∧ p < ws.length)) : wdAt ws p = ws.getD (ws.length - 1) ((0, [], 0), 0) := by
 rw [wdAt_out h]
 exact Prod.ext hE.symm rfl
theorem pword_pure (F : Base) {ws : Ws} {l : Value} (hW : HasW F ws l) (hE : EndW ws) {b : Nat} {p : St} (hp : 0 ≤ p.p) (hb : F b = some (RdP l p)) : PureV Tryz.prog F 15 #[.pointer (some ⟨b, 0, none⟩)] (.agg (wdV (wdAt ws p.p).1 (wdAt ws p.p).2).toArray) := by
 obtain ⟨bw, cap, sp, T, fz, rfl, hFw, hc, hm, hne⟩ := hW
 have hpos : 0 < ws.length := List.length_pos_iff.2 hne
 refine pureV_of_svc (args := [.pointer (some ⟨b, 0, none⟩)]) mixed Tryz.func15 low15 (Nat.le_of_ble_eq_true rfl) (fun w0 => ?_)
 simp only [fu15, ↓ZD, ZW, simprocAttr]
 refine NewB.of fun b2 hb2 hF2 => ?_
 obtain ⟨i, hi, hm2, hw⟩ : ∃ i : Nat, i < ws.length ∧ (if (ws.length : Int) - 1 < p.p then (ws.length : Int) - 1 else p.p) = i ∧ wdAt ws p.p = ws.getD i ((0, [], 0), 0) := by
  by_cases h : p.p < ws.length
  ·refine ⟨p.p.toNat, by omega, by rw [if_neg (by omega)]; omega, ?_⟩
   have := wdAt_in (ws := ws) (i := p.p.toNat) (by omega)
   rwa [show ((p.p.toNat : Nat) : Int) = p.p by omega] at this
  ·exact ⟨ws.length - 1, by omega, by rw [if_pos (by omega)]; omega, wdAt_end hE (by omega)⟩
 have hld := wds_at (sp := sp) (T := T) (fz := fz) hi
 rw [hw]
 simp (disch := first | assumption | exact Ne.symm (by assumption) | omega) only [hb, hF2, hm2, hFw, hld, Int.toNat_natCast, wdV, ↓ZD, ZW, simprocAttr]
 refine conj.of (by omega) ?_
 simp (disch := first | assumption | exact Ne.symm (by assumption) | omega) only [hb, hF2, hm2, hFw, hld, Int.toNat_natCast, wdV, ↓ZD, ZW, simprocAttr]
theorem pis_pure (F : Base) {ws : Ws} {l : Value} (hW : HasW F ws l) (hE : EndW ws) {b : Nat} {p : St} (hp : 0 ≤ p.p) (hb : F b = some (RdP l p)) (t : Str) : PureV Tryz.prog F 53 #[.pointer (some ⟨b, 0, none⟩), .string (bs t)] (.bool (isS ws p t)) := by
 refine pureV_of_svc (args := [.pointer (some ⟨b, 0, none⟩), .string (bs t)]) mixed Tryz.func53 low53 (Nat.le_of_ble_eq_true rfl) (fun w0 => ?_)
 simp only [fu53, ↓ZD, ZW, simprocAttr]
 refine CallE.pure (pword_pure F hW hE hp hb) ?_
 simp only [hb, wdV, ↓ZD, ZW, simprocAttr]
 refine NewB.of fun b2 hb2 hF2 => ?_
 simp (disch := first | assumption | exact Ne.symm (by assumption) | omega) only [hb, hF2, wdV, ↓ZD, ZW, simprocAttr]
 simp [isS, wk, wtx]
def Rp1 (F : Base) (l : Value) (f : Nat) (args : List Value) (b : Nat) (p : St) (r : Value) (p' : St) : Prop := Does Tryz.prog F f (.pointer (some ⟨b, 0, none⟩) :: args).toArray [(b, RdP l p)] (fun v H' => v = r ∧ H' = [(b, RdP l p')])
theorem CallE.rp1 {X : List Nat} {F : Base} {w0 : World} {l : Value} {f : Nat} {args : List Value} {b : Nat} {p p' : St} {r : Value} {H : Hp} {K : Value → Hp → Prop} (Hl : Hp) (h : Rp1 (rdObj F Hl) l f args b p r p')
  (hb : (b, RdP l p) ∈ H) (hl : ∀ e ∈ Hl, e ∈ H) (nl : ∀ e ∈ Hl, e.1 ≠ b) (hk : K r ((b, RdP l p') :: Hl)) : @CallE Tryz.prog X F w0 f (.pointer (some ⟨b, 0, none⟩) :: args).toArray H ⟨K⟩ :=
 CallG.shr (K := fun v H' => v = r ∧ H' = Hl ++ [(b, RdP l p')]) (@CallE.does Tryz.prog X F (rdObj F Hl) w0 f _ H _ _ [(b, RdP l p)] Hl h (fun _ _ h => h) (by simpa using hb) hl (by simpa using fun a o h => (nl (a, o) h).symm) (fun v H' ⟨h1, h2⟩ _ _ _ => ⟨h1, by rw [h2]⟩))
  fun v H' ⟨h1, h2⟩ => ⟨(b, RdP l p') :: Hl, by rw [h2]; simp +contextual, by rw [h1]; exact hk⟩
theorem pfail_rd (F : Base) {l : Value} {b : Nat} (hFb : F b = none) (p : St) (e a : Int) : Rp1 F l 54 [.int .i64 e, .int .i64 a] b p (.tuple #[]) (failA p e a) := by
 refine does_of_svc (args := [.pointer (some ⟨b, 0, none⟩), .int .i64 e, .int .i64 a]) mixed Tryz.func54 low54 (Nat.le_of_ble_eq_true rfl) (fun w0 hw0 => ?_)
 simp only [fu54, hFb, ↓ZD, ZW, simprocAttr]
 unfold failA
 by_cases h : p.e = 0
 ·have hd : (p.e == 0) = true := by simpa using h
  rw [if_pos h]
  simp only [hd, hFb, ↓ZD, ZW, simprocAttr]
 ·have hd : (p.e == 0) = false := by simpa using h
  rw [if_neg h]
  simp only [hd, hFb, ↓ZD, ZW, simprocAttr]
theorem pskip_rd (F : Base) {ws : Ws} {l : Value} (hW : HasW F ws l) (hE : EndW ws) {b : Nat} (hFb : F b = none) {p : St} (hp : 0 ≤ p.p) (t : Str) : Rp1 F l 26 [.string (bs t)] b p (.bool (isS ws p t)) (if isS ws p t then adv p else p) := by
 have hb : rdObj F [(b, RdP l p)] b = some (RdP l p) := by simp [rdObj, hFb, lk]
 obtain ⟨bw, cap, sp, T, fz, rfl, hFw, hc, hm, hne⟩ := id hW
 refine does_of_svc (args := [.pointer (some ⟨b, 0, none⟩), .string (bs t)]) mixed Tryz.func26 low26 (Nat.le_of_ble_eq_true rfl) (fun w0 hw0 => ?_)
 simp only [fu26, hFb, ↓ZD, ZW, simprocAttr]
 refine CallE.pureH (pis_pure _ (hW.mono le_up) hE hp hb t) ?_
 simp only [hFb, ↓ZD, ZW, simprocAttr]
 cases h : isS ws p t with
 | false => simp only [hFb, h, ↓ZD, ZW, simprocAttr]
 | true =>
  have h1 := isS_range h
  simp (disch := first | assumption | exact Ne.symm (by assumption) | omega) only [hFb, h, adv, ↓ZD, ZW, simprocAttr]
theorem mustS_p {ws : Ws} {p : St} {t : Str} (h : 0 ≤ p.p) : 0 ≤ (mustS ws p t).p := by
 unfold mustS adv failS
 split
 ·show (0 : Int) ≤ p.p + 1; omega
 ·split <;> exact h
end Go.Proofs.YtnenbihkcjgddaaGreatDoor
namespace Go.Proofs.YtnenbihkcjgddaaGreatDoor
open Go Go.Eng
set_option maxHeartbeats 1000000
set_option linter.unusedSimpArgs false
set_option linter.unusedVariables false
set_option maxRecDepth 20000
theorem failA_S {ws : Ws} {s : St} {e : Int} : failA s e (wdAt ws s.p).2 = failS ws s e := rfl
theorem mustsS_p {ws : Ws} : ∀ {l : List Str} {p : St}, 0 ≤ p.p → 0 ≤ (mustsS ws p l).p
 | [], _, h => h
 | t :: l, p, h => mustsS_p (l := l) (mustS_p h)
theorem mustsS_snoc {ws : Ws} {p : St} {l : List Str} {i : Nat} {t : Str} (h : l[i]? = some t) : mustsS ws p (l.take (i + 1)) = mustS ws (mustsS ws p (l.take i)) t := by
 unfold mustsS; rw [take_snoc h, List.foldl_append]; rfl
theorem pmust_rd (F : Base) {ws : Ws} {l : Value} (hW : HasW F ws l) (hE : EndW ws) {b : Nat} (hFb : F b = none) {p : St} (hp : 0 ≤ p.p) {v : Value} {ts : List Str} (hT : SlS F v ts) : Rp1 F l 27 [v] b p (.tuple #[]) (mustsS ws p ts) := by
 obtain ⟨a1, c1, rfl, hc1, hl1, h1, -⟩ := hT
 refine does_of_svc (args := [.pointer (some ⟨b, 0, none⟩), .slice a1 ts.length c1]) mixed Tryz.func27 low27 (Nat.le_of_ble_eq_true rfl) (fun w0 hw0 => ?_)
 simp only [fu27, hFb, ↓ZD, ZW, simprocAttr]
 refine LoopL.inv (α := Nat) (fun i => i ≤ ts.length) (fun i => [(0, some (.pointer (some ⟨b, 0, none⟩))), (6, some (.slice a1 ts.length c1)), (7, some (.int .i64 ts.length)), (8, some (.int .i64 i))])
  (fun i => [(b, RdP l (mustsS ws p (ts.take i)))]) (fun i => ts.length - i) 0 (Nat.zero_le _) (by (simp (disch := first | assumption | exact Ne.symm (by assumption) | omega) only [↓ZD, ZW, simprocAttr]; try trivial)) (by (try (simp (disch := first | assumption | exact Ne.symm (by assumption) | omega) only [↓ZD, ZW, simprocAttr]); try trivial)) ?_
 rintro i hi
 by_cases hlt : i < ts.length
 ·have hd : decide ((i : Int) < (ts.length : Int)) = true := by simp; omega
  have gx := getS hlt
  obtain ⟨ba, oa, rfl, hla⟩ := (h1 i _ gx).ld1
  have hm := mustsS_snoc (ws := ws) (p := p) gx
  have hq := mustsS_p (ws := ws) (l := ts.take i) hp
  generalize ts.getD i [] = t at *
  generalize mustsS ws p (ts.take i) = q at *
  simp (disch := first | assumption | exact Ne.symm (by assumption) | omega) only [hd, hFb, ↓ZD, ZW, simprocAttr]
  refine conj.of (by omega) ?_
  simp (disch := first | assumption | exact Ne.symm (by assumption) | omega) only [hd, hFb, Int.toNat_natCast, ↓hla, ↓ZD, ZW, simprocAttr]
  refine CallE.rp1 [] (pskip_rd _ (hW.mono le_up) hE (rdObj_none hFb (by simp)) hq t) List.mem_cons_self (by simp) (by simp) ?_
  unfold mustS at hm
  have hb : rdObj F [(b, RdP l q)] b = some (RdP l q) := by simp [rdObj, hFb, lk]
  cases h : isS ws q t with
  | true =>
   rw [h, if_pos rfl] at hm
   simp (disch := first | assumption | exact Ne.symm (by assumption) | omega) only [hd, hFb, ↓ZD, ZW, simprocAttr]
   refine invK.on (i + 1) (by omega) (by omega) (by (simp (disch := first | assumption | exact Ne.symm (by assumption) | omega) only [↓ZD, ZW, simprocAttr]; try trivial)) ?_
   rw [hm]
   exact ⟨by simp [lk], trivial⟩
  | false =>
   rw [h, if_neg (by simp)] at hm
   simp (disch := first | assumption | exact Ne.symm (by assumption) | omega) only [hd, hFb, ↓ZD, ZW, simprocAttr]
   refine CallE.pureH (pword_pure _ (hW.mono le_up) hE hq hb) ?_
   simp (disch := first | assumption | exact Ne.symm (by assumption) | omega) only [hd, hFb, wf3, wsz, ↓ZD, ZW, simprocAttr]
   refine CallE.rp1 [] (pfail_rd _ (l := l) (rdObj_none hFb (by simp)) q 10 _) List.mem_cons_self (by simp) (by simp) ?_
   simp (disch := first | assumption | exact Ne.symm (by assumption) | omega) only [hd, hFb, ↓ZD, ZW, simprocAttr]
   refine invK.on (i + 1) (by omega) (by omega) (by (simp (disch := first | assumption | exact Ne.symm (by assumption) | omega) only [↓ZD, ZW, simprocAttr]; try trivial)) ?_
   rw [hm]
   exact ⟨by simp [lk, failA_S], trivial⟩
 ·have hd : decide ((i : Int) < (ts.length : Int)) = false := by simp; omega
  obtain rfl : i = ts.length := by omega
  simp (disch := first | assumption | exact Ne.symm (by assumption) | omega) only [hd, hFb, List.take_length, ↓ZD, ZW, simprocAttr]
theorem pquoted_rd (F : Base) {ws : Ws} {l : Value} (hW : HasW F ws l) (hE : EndW ws) {b : Nat} (hFb : F b = none) {p : St} (hp : 0 ≤ p.p) : Rp1 F l 28 [] b p (.string (bs (takeS ws p 3).1)) (takeS ws p 3).2 := by
 have hb : rdObj F [(b, RdP l p)] b = some (RdP l p) := by simp [rdObj, hFb, lk]
 obtain ⟨bw, cap, sp, T, fz, rfl, hFw, hc, hm, hne⟩ := id hW
 refine Does.shr (K := fun v H' => v = .string (bs (takeS ws p 3).1) ∧ (b, RdP (.slice (some ⟨bw, 0, none⟩) ws.length cap) (takeS ws p 3).2) ∈ H') ?_ fun v H' ⟨h1, h2⟩ => ⟨[_], by simpa using h2, h1, rfl⟩
 refine does_of_svc (args := [.pointer (some ⟨b, 0, none⟩)]) mixed Tryz.func28 low28 (Nat.le_of_ble_eq_true rfl) (fun w0 hw0 => ?_)
 simp only [fu28, hFb, ↓ZD, ZW, simprocAttr]
 refine CallE.pureH (pword_pure _ (hW.mono le_up) hE hp hb) ?_
 simp only [hFb, wdV, ↓ZD, ZW, simprocAttr]
 refine NewB.of fun b2 hb2 hF2 => ?_
 simp only [List.forall_mem_cons, List.not_mem_nil, false_implies, implies_true, and_true] at hb2
 simp only [hFb, hF2, wdV, ↓ZD, ZW, simprocAttr]
 unfold takeS
 by_cases h : p.e = 0 ∧ wk ws p = 3
 ·have h1 : (p.e != 0) = false := by simpa using h.1
  have h2 : ((((wdAt ws p.p).1.1 : Nat) : Int) != 3) = false := by simpa [wk] using h.2
  have hr := in_range (ws := ws) (p := p.p) (by have := h.2; unfold wk at this; omega)
  rw [if_pos h]
  simp (disch := first | assumption | exact Ne.symm (by assumption) | omega) only [hFb, hF2, h1, h2, adv, ↓ZD, ZW, simprocAttr]
  simp [wtx]
 ·have h1 : (p.e != 0 || (((wdAt ws p.p).1.1 : Nat) : Int) != 3) = true := by
   rw [Bool.or_eq_true, bne_iff_ne, bne_iff_ne]
   by_cases h3 : p.e = 0
   ·exact .inr fun h4 => h ⟨h3, h4⟩
   ·exact .inl h3
  rw [if_neg h]
  simp (disch := first | assumption | exact Ne.symm (by assumption) | omega) only [hFb, hF2, h1, ↓ZD, ZW, simprocAttr]
  refine CallE.does [(b, RdP (.slice (some ⟨bw, 0, none⟩) ws.length cap) p)] [] (pfail_rd F hFb p 10 _) (fun _ _ h => by simp [rdObj, h]) (by simp) (fun e h => by cases h) (fun e h => by cases h) ?_
  rintro _ _ ⟨rfl, rfl⟩ - - -
  simp only [hFb, ↓ZD, ZW, simprocAttr]
  simp [failA_S]
theorem pown_pure (F : Base) (s : Str) : PureV Tryz.prog F 84 #[.string (bs s)] (.bool (decide (s ∈ ownL))) := by
 refine pureV_of_svc mixed Tryz.func84 low84 (Nat.le_of_ble_eq_true rfl) (fun w0 => ?_)
 by_cases h : s ∈ ownL
 ·rw [decide_eq_true h]
  simp only [ownL, List.mem_cons, List.not_mem_nil, or_false] at h
  rcases h with rfl | rfl | rfl | rfl | rfl | rfl | rfl | rfl <;> simp (disch := first | assumption | exact Ne.symm (by assumption) | omega) only [fu84, ↓ZD, ZW, simprocAttr] <;> simp
 ·rw [decide_eq_false h]
  simp only [ownL, List.mem_cons, List.not_mem_nil, or_false, not_or] at h
  obtain ⟨h1, h2, h3, h4, h5, h6, h7, h8⟩ := h
  have k : ∀ x y : Str, x ≠ y → (x == y) = false := fun x y h => by simpa using h
  simp (disch := first | assumption | exact Ne.symm (by assumption) | omega) only [fu84, k _ _ h1, k _ _ h2, k _ _ h3, k _ _ h4, k _ _ h5, k _ _ h6, k _ _ h7, k _ _ h8, ↓ZD, ZW, simprocAttr]
theorem puid_rd (F : Base) {ws : Ws} (hws : WsOk ws) {l : Value} (hW : HasW F ws l) {b : Nat} (hFb : F b = none) (p : St) : Rp1 F l 57 [] b p (.agg #[.string (bs (uidP ws p).1.1), .string (bs (uidP ws p).1.2)]) (uidP ws p).2 := by
 obtain ⟨bw, cap, sp, T, fz, rfl, hFw, hc, hm, hne⟩ := id hW
 refine Does.shr (K := fun v H' => v = .agg #[.string (bs (uidP ws p).1.1), .string (bs (uidP ws p).1.2)] ∧ (b, RdP (.slice (some ⟨bw, 0, none⟩) ws.length cap) (uidP ws p).2) ∈ H') ?_ fun v H' ⟨h1, h2⟩ => ⟨[_], by simpa using h2, h1, rfl⟩
 refine does_of_svc (args := [.pointer (some ⟨b, 0, none⟩)]) mixed Tryz.func57 low57 (Nat.le_of_ble_eq_true rfl) (fun w0 hw0 => ?_)
 simp only [fu57, hFb, ↓ZD, ZW, simprocAttr]
 refine NewB.of fun b2 hb2 hF2 => ?_
 simp only [List.forall_mem_cons, List.not_mem_nil, false_implies, implies_true, and_true] at hb2
 unfold uidP
 by_cases he : p.e = 0
 ·have hd : (p.e != 0) = false := by simpa using he
  rw [if_pos he]
  simp (disch := first | assumption | exact Ne.symm (by assumption) | omega) only [hFb, hF2, hd, ↓ZD, ZW, simprocAttr]
  refine CallQ.of _ (uid_pure _ hws (hW.mono le_up) p.p) ?_
  generalize uidR ws p.p = R
  simp (disch := first | assumption | exact Ne.symm (by assumption) | omega) only [hFb, hF2, hd, ↓ZD, ZW, simprocAttr]
  refine NewB.of fun b3 hb3 hF3 => ?_
  simp only [List.forall_mem_cons, List.not_mem_nil, false_implies, implies_true, and_true] at hb3
  obtain ⟨n1, n2⟩ := hb3
  by_cases h0 : R.2.2.1 = 0
  ·have hd2 : (R.2.2.1 != 0) = false := by simpa using h0
   rw [if_pos h0]
   simp (disch := first | assumption | exact Ne.symm (by assumption) | omega) only [hFb, hF2, hF3, hd2, ↓ZD, ZW, simprocAttr]
   simp
  ·have hd2 : (R.2.2.1 != 0) = true := by simpa using h0
   rw [if_neg h0]
   simp (disch := first | assumption | exact Ne.symm (by assumption) | omega) only [hFb, hF2, hF3, hd2, ↓ZD, ZW, simprocAttr]
   refine CallE.rp1 [(b2, .cells #[.string (bs []), .string (bs [])] 33 (0, 0))] (pfail_rd _ (l := .slice (some ⟨bw, 0, none⟩) ws.length cap) (rdObj_none hFb (by simpa using Ne.symm hb2)) p R.2.2.1 R.2.2.2) (by simp) (by simp) (by simpa using Ne.symm hb2) ?_
   simp (disch := first | assumption | exact Ne.symm (by assumption) | omega) only [hFb, hF2, hF3, hd2, ↓ZD, ZW, simprocAttr]
   simp [failA, he]
 ·have hd : (p.e != 0) = true := by simpa using he
  rw [if_neg he]
  simp (disch := first | assumption | exact Ne.symm (by assumption) | omega) only [hFb, hF2, hd, ↓ZD, ZW, simprocAttr]
  simp
end Go.Proofs.YtnenbihkcjgddaaGreatDoor
namespace Go.Proofs.YtnenbihkcjgddaaGreatDoor
open Go Go.Eng
set_option maxHeartbeats 1000000
set_option linter.unusedSimpArgs false
set_option linter.unusedVariables false
set_option maxRecDepth 20000
abbrev ScO (x : Scp) (v : Value) : Obj := .cells #[.int .i64 x.kind, .string (bs x.ty), .string (bs x.ut), .string (bs x.ui), .bool x.slot, v] 45 (0, 0)
def PlaceD (F : Base) (ws : Ws) (l : Value) (b s : Nat) (p : St) (x : Scp) (v : Value) (nm : Str) : Prop :=
 Does Tryz.prog F 55 #[.pointer (some ⟨b, 0, none⟩), .pointer (some ⟨s, 0, none⟩), .string (bs nm)] [(b, RdP l p), (s, ScO x v)] (fun r H' => r = .tuple #[] ∧ H' = [(b, RdP l (placeP ws p x nm).2), (s, ScO (placeP ws p x nm).1 v)])
theorem pplace_does (F : Base) {ws : Ws} (hws : WsOk ws) {l : Value} (hW : HasW F ws l) (hE : EndW ws) {b s : Nat} (hbs : b ≠ s) (hFb : F b = none) (hFs : F s = none) {p : St} (hp : 0 ≤ p.p) (x : Scp) {v : Value} (hv : oneCell v = true) (nm : Str) : PlaceD F ws l b s p x v nm := by
 have hb : rdObj F [(b, RdP l p), (s, ScO x v)] b = some (RdP l p) := by simp [rdObj, hFb, lk]
 obtain ⟨bw, cap, sp, T, fz, rfl, hFw, hc, hm, hne⟩ := id hW
 refine Does.shr (K := fun r H' => r = .tuple #[] ∧ (b, RdP (.slice (some ⟨bw, 0, none⟩) ws.length cap) (placeP ws p x nm).2) ∈ H' ∧ (s, ScO (placeP ws p x nm).1 v) ∈ H') ?_ fun r H' ⟨h1, h2, h3⟩ => ⟨[_, _], by simpa using ⟨h2, h3⟩, h1, rfl⟩
 refine does_of_svc (args := [.pointer (some ⟨b, 0, none⟩), .pointer (some ⟨s, 0, none⟩), .string (bs nm)]) mixed Tryz.func55 low55 (Nat.le_of_ble_eq_true rfl) (fun w0 hw0 => ?_)
 simp only [fu55, hFb, hFs, ↓ZD, ZW, simprocAttr]
 refine CallE.pureH (pword_pure _ (hW.mono le_up) hE hp hb) ?_
 simp only [hFb, hFs, wdV, ↓ZD, ZW, simprocAttr]
 refine NewB.of fun b2 hb2 hF2 => ?_
 simp only [List.forall_mem_cons, List.not_mem_nil, false_implies, implies_true, and_true] at hb2
 obtain ⟨n1, n2⟩ := hb2
 simp only [hFb, hFs, hF2, wdV, ↓ZD, ZW, simprocAttr]
 unfold placeP
 by_cases h : p.e = 0 ∧ wk ws p = 4
 ·have h1 : (p.e != 0) = false := by simpa using h.1
  have h2 : ((((wdAt ws p.p).1.1 : Nat) : Int) != 4) = false := by simpa [wk] using h.2
  have hr := in_range (ws := ws) (p := p.p) (by have := h.2; unfold wk at this; omega)
  rw [if_pos h]
  by_cases ht : wtx ws p = nm
  ·have h3 : ((wdAt ws p.p).1.2.1 == nm) = true := by simpa [wtx] using ht
   rw [if_pos ht]
   simp (disch := first | assumption | exact Ne.symm (by assumption) | omega) only [hFb, hFs, hF2, h1, h2, h3, Bool.not_true, Bool.not_false, hbs, adv, hv, ↓ZD, ZW, simprocAttr]
   simp
  ·have h3 : ((wdAt ws p.p).1.2.1 == nm) = false := by simpa [wtx] using ht
   rw [if_neg ht]
   simp (disch := first | assumption | exact Ne.symm (by assumption) | omega) only [hFb, hFs, hF2, h1, h2, h3, Bool.not_true, Bool.not_false, hbs, hv, ↓ZD, ZW, simprocAttr]
   refine CallE.rp1 [(s, ScO x v)] (pfail_rd _ (l := .slice (some ⟨bw, 0, none⟩) ws.length cap) (rdObj_none hFb (by simpa using Ne.symm hbs)) p 32 _) (by simp) (by simp) (by simpa using Ne.symm hbs) ?_
   simp (disch := first | assumption | exact Ne.symm (by assumption) | omega) only [hFb, hFs, hF2, h1, h2, h3, Bool.not_true, Bool.not_false, hbs, hv, failA, failS, adv, h.1, ↓ZD, ZW, simprocAttr]
   simp
 ·have h1 : (p.e != 0 || (((wdAt ws p.p).1.1 : Nat) : Int) != 4) = true := by
   rw [Bool.or_eq_true, bne_iff_ne, bne_iff_ne]
   by_cases h3 : p.e = 0
   ·exact .inr fun h4 => h ⟨h3, h4⟩
   ·exact .inl h3
  rw [if_neg h]
  simp (disch := first | assumption | exact Ne.symm (by assumption) | omega) only [hFb, hFs, hF2, h1, hbs, hv, ↓ZD, ZW, simprocAttr]
  refine CallE.rp1 [(s, ScO x v)] (puid_rd _ hws (hW.mono le_up) (rdObj_none hFb (by simpa using Ne.symm hbs)) p) (by simp) (by simp) (by simpa using Ne.symm hbs) ?_
  simp (disch := first | assumption | exact Ne.symm (by assumption) | omega) only [hFb, hFs, hF2, h1, hbs, hv, ↓ZD, ZW, simprocAttr]
  simp
end Go.Proofs.YtnenbihkcjgddaaGreatDoor
namespace Go.Proofs.YtnenbihkcjgddaaGreatDoor
open Go Go.Eng
set_option maxHeartbeats 1000000
set_option linter.unusedSimpArgs false
set_option linter.unusedVariables false
set_option maxRecDepth 20000
theorem pathS_no {ws : Ws} {p : St} (he : p.e = 0) (h : wk ws p ≠ 1 ∨ wtx ws p ∈ ownL) : pathS ws p = ([], failS ws p 10) := by
 have hf : (failS ws p 10).e ≠ 0 := failS_e (by decide)
 unfold pathS
 by_cases ho : wtx ws p ∈ ownL
 ·have h2 : takeS ws (failS ws p 10) 1 = ([], failS ws p 10) := by unfold takeS; rw [if_neg (fun k => hf k.1), failS_err hf]
  rw [if_pos ho, h2]; unfold pathT; rw [if_neg hf]
 ·have hk : wk ws p ≠ 1 := h.resolve_right ho
  have h2 : takeS ws p 1 = ([], failS ws p 10) := by unfold takeS; rw [if_neg (fun k => hk k.2)]
  rw [if_neg ho, h2]; unfold pathT; rw [if_neg hf]
theorem pathS_yes {ws : Ws} {p : St} (he : p.e = 0) (hk : wk ws p = 1) (ho : wtx ws p ∉ ownL) : pathS ws p = pathT ws (wtx ws p, adv p) := by
 unfold pathS takeS; rw [if_neg ho, if_pos ⟨he, hk⟩]
theorem pathT_no {ws : Ws} {q : St} {o : Str} {j : Nat} (he : q.e = 0) (hj : q.p = j) (h : isS ws q [58, 58] = false ∨ ¬ j + 1 < ws.length ∨ ((ws.getD (j + 1) ((0, [], 0), 0)).1.1 : Int) ≠ 1) : pathT ws (o, q) = (o, q) := by
 have hn : pathL (ws.drop q.p.toNat) = ([], 0) := by
  rw [show q.p.toNat = j by omega]
  exact path_no (q := q) (by omega) (h.imp (fun h => ⟨he, by omega, h⟩) id)
 unfold pathT; rw [if_pos he, hn, List.append_nil]
 simp
theorem pathT_yes {ws : Ws} {q : St} {o : Str} {j : Nat} (he : q.e = 0) (hj : q.p = j) (hi : isS ws q [58, 58] = true) (hlt : j + 1 < ws.length) (hk : ((ws.getD (j + 1) ((0, [], 0), 0)).1.1 : Int) = 1) :
  wk ws (adv q) = 1 ∧ pathT ws (o, q) = pathT ws (o ++ [58, 58] ++ wtx ws (adv q), adv (adv q)) := by
 have e : wdAt ws (adv q).p = ws.getD (j + 1) ((0, [], 0), 0) := by rw [show (adv q).p = ((j + 1 : Nat) : Int) by show q.p + 1 = _; omega, wdAt_in hlt]
 refine ⟨by unfold wk; rw [e]; exact hk, ?_⟩
 have hy := path_yes he hj hi hlt hk
 have e1 : q.p.toNat = j := by omega
 have e2 : (adv (adv q)).p.toNat = j + 2 := by show (q.p + 1 + 1).toNat = _; omega
 unfold pathT
 rw [if_pos he, if_pos (show (adv (adv q)).e = 0 from he), e1, e2, hy]
 unfold wtx
 rw [e]
 refine Prod.ext (by simp [List.append_assoc]) ?_
 show (⟨_, _, _, _⟩ : St) = ⟨_, _, _, _⟩
 congr 1
 show q.p + ((pathL (ws.drop (j + 2))).2 + 2 : Nat) = q.p + 1 + 1 + ((pathL (ws.drop (j + 2))).2 : Nat)
 omega
def PathP (ws : Ws) (p : St) (X : Str × St) (y : St × Str × Bool × (Wd × Nat)) : Prop :=
 y.1.e = 0 ∧ 0 ≤ y.1.p ∧ y.1.p ≤ ws.length ∧ y.2.1.length ≤ 65538 * y.1.p.toNat ∧ (y.2.2.1 = true → X = pathS ws y.1 ∧ y.2.1 = []) ∧ (y.2.2.1 = false → wk ws y.1 = 1 ∧ X = pathT ws (y.2.1 ++ wtx ws y.1, adv y.1))
theorem ppath_rd (F : Base) {ws : Ws} (hws : WsOk ws) {l : Value} (hW : HasW F ws l) (hE : EndW ws) {b : Nat} (hFb : F b = none) {p : St} (hp : 0 ≤ p.p) (hp2 : p.p ≤ ws.length) : Rp1 F l 56 [] b p (.string (bs (pathS ws p).1)) (pathS ws p).2 := by
 have hb : rdObj F [(b, RdP l p)] b = some (RdP l p) := by simp [rdObj, hFb, lk]
 obtain ⟨bw, cap, sp, T, fz, rfl, hFw, hc, hm, hne⟩ := id hW
 refine Does.shr (K := fun v H' => v = .string (bs (pathS ws p).1) ∧ (b, RdP (.slice (some ⟨bw, 0, none⟩) ws.length cap) (pathS ws p).2) ∈ H') ?_ fun v H' ⟨h1, h2⟩ => ⟨[_], by simpa using h2, h1, rfl⟩
 refine does_of_svc (args := [.pointer (some ⟨b, 0, none⟩)]) mixed Tryz.func56 low56 (Nat.le_of_ble_eq_true rfl) (fun w0 hw0 => ?_)
 simp only [fu56, hFb, ↓ZD, ZW, simprocAttr]
 refine CallE.pureH (pword_pure _ (hW.mono le_up) hE hp hb) ?_
 simp only [hFb, wdV, ↓ZD, ZW, simprocAttr]
 refine NewB.of fun b2 hb2 hF2 => ?_
 simp only [List.forall_mem_cons, List.not_mem_nil, false_implies, implies_true, and_true] at hb2
 simp only [hFb, hF2, wdV, ↓ZD, ZW, simprocAttr]
 by_cases he : p.e = 0
 ·have hd : (p.e != 0) = false := by simpa using he
  simp (disch := first | assumption | exact Ne.symm (by assumption) | omega) only [hFb, hF2, hd, ↓ZD, ZW, simprocAttr]
  generalize hX : pathS ws p = X
  refine LoopL.inv (α := St × Str × Bool × (Wd × Nat)) (PathP ws p X) (fun y => [(0, some (.pointer (some ⟨b, 0, none⟩))), (3, some (.pointer (some ⟨b2, 0, none⟩))), (4, some (.string (bs y.2.1))), (5, some (.bool y.2.2.1))])
   (fun y => [(b, RdP (.slice (some ⟨bw, 0, none⟩) ws.length cap) y.1), (b2, .cells (wdV y.2.2.2.1 y.2.2.2.2).toArray 63 (0, 0))]) (fun y => ws.length - y.1.p.toNat) (p, [], true, wdAt ws p.p) ⟨he, hp, hp2, Nat.zero_le _, fun _ => ⟨hX.symm, rfl⟩, fun h => by cases h⟩ (by (simp (disch := first | assumption | exact Ne.symm (by assumption) | omega) only [↓ZD, ZW, simprocAttr]; try trivial)) ?_ ?_
  ·simp only [HLe_nil, HLe_cons, wdV]
   simp (disch := first | assumption | exact Ne.symm (by assumption) | omega) only [↓ZD, ZW, simprocAttr]
  rintro ⟨q, o, f, w⟩ ⟨h1, h2, h3, h4, h5, h6⟩
  simp only at h1 h2 h3 h4 h5 h6 ⊢
  have hbq : rdObj F [(b, RdP (.slice (some ⟨bw, 0, none⟩) ws.length cap) q), (b2, .cells (wdV w.1 w.2).toArray 63 (0, 0))] b = some (RdP (.slice (some ⟨bw, 0, none⟩) ws.length cap) q) := by simp [rdObj, hFb, lk]
  have hd1 : (q.e == 0) = true := by simpa using h1
  simp only [hFb, hF2, wdV, hb2, ↓ZD, ZW, simprocAttr]
  refine CallE.pureH (pword_pure _ (hW.mono le_up) hE h2 hbq) ?_
  simp only [hFb, hF2, wdV, hb2, ↓ZD, ZW, simprocAttr]
  refine CallQ.of (.bool (decide ((wdAt ws q.p).1.2.1 ∈ ownL))) (fun _ => pown_pure _ _) ?_
  by_cases hk : wk ws q = 1
  ·have k1 : ((((wdAt ws q.p).1.1 : Nat) : Int) != 1) = false := by simpa [wk] using hk
   by_cases hbad : f = true ∧ wtx ws q ∈ ownL
   ·obtain ⟨rfl, ho2⟩ := hbad
    obtain ⟨hX1, ho⟩ := h5 rfl
    have hX2 := pathS_no (p := q) h1 (.inr ho2)
    have k2 : decide ((wdAt ws q.p).1.2.1 ∈ ownL) = true := decide_eq_true ho2
    simp (disch := first | assumption | exact Ne.symm (by assumption) | omega) only [hFb, hF2, hb2, k1, k2, ↓ZD, ZW, simprocAttr]
    refine CallE.rp1 [(b2, .cells (wdV (wdAt ws q.p).1 (wdAt ws q.p).2).toArray 63 (0, 0))] (pfail_rd _ (l := .slice (some ⟨bw, 0, none⟩) ws.length cap) (rdObj_none hFb (by simpa using Ne.symm hb2)) q 10 _) (by simp) (by simp [wdV]) (by simpa using Ne.symm hb2) ?_
    simp (disch := first | assumption | exact Ne.symm (by assumption) | omega) only [hFb, hF2, hb2, ↓ZD, ZW, simprocAttr]
    rw [hX1, hX2]
    simp [failA_S]
   ·have k2 : (f && decide ((wdAt ws q.p).1.2.1 ∈ ownL)) = false := by
     rw [Bool.and_eq_false_iff, decide_eq_false_iff_not]
     by_cases hf : f = true
     ·exact .inr fun h => hbad ⟨hf, h⟩
     ·exact .inl (by simpa using hf)
    have hX1 : X = pathT ws (o ++ wtx ws q, adv q) := by
     cases f with
     | false => exact (h6 rfl).2
     | true =>
      obtain ⟨h7, rfl⟩ := h5 rfl
      rw [h7, pathS_yes h1 hk (fun h => hbad ⟨rfl, h⟩)]; rfl
    have hr := in_range (ws := ws) (p := q.p) (by unfold wk at hk; omega)
    simp (disch := first | assumption | exact Ne.symm (by assumption) | omega) only [hFb, hF2, hb2, k1, k2, ↓ZD, ZW, simprocAttr]
    have hlen := (wdAt_ok hws q.p).1
    have h65 := hws.1
    refine conj.of (by omega) ?_
    simp (disch := first | assumption | exact Ne.symm (by assumption) | omega) only [hFb, hF2, hb2, k1, k2, ↓ZD, ZW, simprocAttr]
    have hbq1 : rdObj F [(b, RdP (.slice (some ⟨bw, 0, none⟩) ws.length cap) (adv q)), (b2, .cells (wdV (wdAt ws q.p).1 (wdAt ws q.p).2).toArray 63 (0, 0))] b = some (RdP (.slice (some ⟨bw, 0, none⟩) ws.length cap) (adv q)) := by simp [rdObj, hFb, lk]
    have he1 : (adv q).e = 0 := h1
    obtain ⟨j, hj⟩ : ∃ j : Nat, (adv q).p = j := ⟨(adv q).p.toNat, by have : (adv q).p = q.p + 1 := rfl; omega⟩
    have hj2 : q.p + 1 = j := hj
    refine CallQ.of (.bool (isS ws (adv q) [58, 58])) (pis_pure _ (hW.mono le_up) hE (by omega) hbq1 [58, 58]) ?_
    obtain ⟨i, hi3, hm2, hw⟩ : ∃ i : Nat, i < ws.length ∧ (if (ws.length : Int) - 1 < (j : Int) + 1 then (ws.length : Int) - 1 else (j : Int) + 1) = i ∧ ((j + 1 < ws.length ∧ i = j + 1) ∨ (¬ j + 1 < ws.length ∧ (ws.getD i ((0, [], 0), 0)).1 = (0, [], 0))) := by
     have hpos : 0 < ws.length := List.length_pos_iff.2 hne
     by_cases h : j + 1 < ws.length
     ·exact ⟨j + 1, h, by rw [if_neg (by omega)]; omega, .inl ⟨h, rfl⟩⟩
     ·exact ⟨ws.length - 1, by omega, by rw [if_pos (by omega)]; omega, .inr ⟨h, hE⟩⟩
    have hld := wds_at0 (sp := sp) (T := T) (fz := fz) hi3
    cases hi : isS ws (adv q) [58, 58] with
    | false =>
     rw [hX1, pathT_no he1 hj (.inl hi)]
     simp (disch := first | assumption | exact Ne.symm (by assumption) | omega) only [hFb, hF2, hb2, hj2, hm2, hFw, hld, Int.toNat_natCast, ↓ZD, ZW, simprocAttr]
     simp [adv, hj2, wtx]
    | true =>
     have hr1 := isS_range hi
     simp (disch := first | assumption | exact Ne.symm (by assumption) | omega) only [hFb, hF2, hb2, hj2, hm2, hFw, hld, Int.toNat_natCast, ↓ZD, ZW, simprocAttr]
     refine conj.of (by omega) ?_
     by_cases hk3 : ((ws.getD i ((0, [], 0), 0)).1.1 : Int) = 1
     ·have k3 : (((ws.getD i ((0, [], 0), 0)).1.1 : Int) != 1) = false := by simpa using hk3
      rcases hw with ⟨hlt, rfl⟩ | ⟨_, h0⟩
      ·obtain ⟨y1, y2⟩ := pathT_yes (o := o ++ wtx ws q) he1 hj hi hlt hk3
       simp (disch := first | assumption | exact Ne.symm (by assumption) | omega) only [hFb, hF2, hb2, hj2, hm2, hFw, hld, Int.toNat_natCast, k3, ↓ZD, ZW, simprocAttr]
       refine conj.of (by omega) ?_
       simp (disch := first | assumption | exact Ne.symm (by assumption) | omega) only [hFb, hF2, hb2, hj2, hm2, hFw, hld, Int.toNat_natCast, k3, ↓ZD, ZW, simprocAttr]
       refine invK.on (adv (adv q), o ++ wtx ws q ++ [58, 58], false, wdAt ws q.p) ?_ ?_ ?_ ?_
       ·have g1 : (0 : Int) ≤ (adv (adv q)).p := by show (0 : Int) ≤ q.p + 1 + 1; omega
        have g2 : (adv (adv q)).p ≤ (ws.length : Int) := by show q.p + 1 + 1 ≤ (ws.length : Int); omega
        have g3 : (o ++ wtx ws q ++ [58, 58]).length ≤ 65538 * (adv (adv q)).p.toNat := by
         show (o ++ wtx ws q ++ [58, 58]).length ≤ 65538 * (q.p + 1 + 1).toNat
         have : (wtx ws q).length ≤ 65536 := hlen
         simp only [List.length_append, List.length_cons, List.length_nil]; omega
        have g5 : false = true → X = pathS ws (adv (adv q)) ∧ o ++ wtx ws q ++ [58, 58] = [] := fun h => by cases h
        exact And.intro he1 (And.intro g1 (And.intro g2 (And.intro g3 (And.intro g5 fun _ => ⟨y1, hX1.trans y2⟩))))
       ·show ws.length - (q.p + 1 + 1).toNat < ws.length - q.p.toNat
        omega
       ·simp only [Le_nil, Le_cons, wtx]
        simp (disch := first | assumption | exact Ne.symm (by assumption) | omega) only [↓ZD, ZW, simprocAttr]
        try simp
       ·simp only [HLe_nil, HLe_cons, wdV]
        simp (disch := first | assumption | exact Ne.symm (by assumption) | omega) only [hb2, hj2, adv, ↓ZD, ZW, simprocAttr]
      ·rw [h0] at hk3; exact absurd hk3 (by decide)
     ·have k3 : (((ws.getD i ((0, [], 0), 0)).1.1 : Int) != 1) = true := by simpa using hk3
      rw [hX1, pathT_no he1 hj (.inr (by rcases hw with ⟨hlt, rfl⟩ | ⟨h, _⟩; exact .inr hk3; exact .inl h))]
      simp (disch := first | assumption | exact Ne.symm (by assumption) | omega) only [hFb, hF2, hb2, hj2, hm2, hFw, hld, Int.toNat_natCast, k3, ↓ZD, ZW, simprocAttr]
      simp [adv, hj2, wtx]
  ·have k1 : ((((wdAt ws q.p).1.1 : Nat) : Int) != 1) = true := by simpa [wk] using hk
   have hf : f = true := by
    cases f with
    | true => rfl
    | false => exact absurd (h6 rfl).1 hk
   subst hf
   obtain ⟨hX1, ho⟩ := h5 rfl
   have hX2 := pathS_no (p := q) h1 (.inl hk)
   simp (disch := first | assumption | exact Ne.symm (by assumption) | omega) only [hFb, hF2, hb2, k1, ↓ZD, ZW, simprocAttr]
   refine CallE.rp1 [(b2, .cells (wdV (wdAt ws q.p).1 (wdAt ws q.p).2).toArray 63 (0, 0))] (pfail_rd _ (l := .slice (some ⟨bw, 0, none⟩) ws.length cap) (rdObj_none hFb (by simpa using Ne.symm hb2)) q 10 _) (by simp) (by simp [wdV]) (by simpa using Ne.symm hb2) ?_
   simp (disch := first | assumption | exact Ne.symm (by assumption) | omega) only [hFb, hF2, hb2, ↓ZD, ZW, simprocAttr]
   rw [hX1, hX2]
   simp [failA_S]
 ·have hd : (p.e != 0) = true := by simpa using he
  rw [pathS_err he]
  simp (disch := first | assumption | exact Ne.symm (by assumption) | omega) only [hFb, hF2, hd, ↓ZD, ZW, simprocAttr]
  simp
end Go.Proofs.YtnenbihkcjgddaaGreatDoor
namespace Go.Proofs.YtnenbihkcjgddaaGreatDoor
open Go Go.Eng
set_option maxHeartbeats 1000000
set_option linter.unusedSimpArgs false
set_option linter.unusedVariables false
set_option maxRecDepth 20000
abbrev v0 : Value := .slice none 0 0
def scV (x : Scp) (v : Value) : Value := .agg #[.int .i64 x.kind, .string (bs x.ty), .string (bs x.ut), .string (bs x.ui), .bool x.slot, v]
theorem takeS_p {ws : Ws} {p : St} {k : Int} (h : 0 ≤ p.p) : 0 ≤ (takeS ws p k).2.p := by
 unfold takeS adv failS
 split
 ·show (0 : Int) ≤ p.p + 1; omega
 ·show (0 : Int) ≤ (if p.e = 0 then _ else _ : St).p
  split <;> exact h
theorem failS_p {ws : Ws} {p : St} {e : Int} (h : 0 ≤ p.p) : 0 ≤ (failS ws p e).p := by
 unfold failS; split <;> exact h
theorem pathS_p {ws : Ws} {p : St} (h : 0 ≤ p.p) : 0 ≤ (pathS ws p).2.p := by
 have h1 : 0 ≤ (if wtx ws p ∈ ownL then failS ws p 10 else p).p := by
  split
  ·exact failS_p h
  ·exact h
 have h2 := takeS_p (ws := ws) (k := 1) h1
 unfold pathS pathT
 generalize takeS ws (if wtx ws p ∈ ownL then failS ws p 10 else p) 1 = y at *
 split
 ·show (0 : Int) ≤ y.2.p + ((pathL (ws.drop y.2.p.toNat)).2 : Nat); omega
 ·exact h2
theorem pscope_rd (F : Base) {ws : Ws} (hws : WsOk ws) {l : Value} (hW : HasW F ws l) (hE : EndW ws) {b : Nat} (hFb : F b = none) {p : St} (hp : 0 ≤ p.p) (nm : Str) (hnm : nm.length ≤ 9223372036854775807) : Rp1 F l 29 [.string (bs nm)] b p (scV (scopeP ws p nm).1 v0) (scopeP ws p nm).2 := by
 obtain ⟨bw, cap, sp, T, fz, rfl, hFw, hc, hm, hne⟩ := id hW
 refine Does.shr (K := fun v H' => v = scV (scopeP ws p nm).1 v0 ∧ (b, RdP (.slice (some ⟨bw, 0, none⟩) ws.length cap) (scopeP ws p nm).2) ∈ H') ?_ fun v H' ⟨h1, h2⟩ => ⟨[_], by simpa using h2, h1, rfl⟩
 refine does_of_svc (args := [.pointer (some ⟨b, 0, none⟩), .string (bs nm)]) mixed Tryz.func29 low29 (Nat.le_of_ble_eq_true rfl) (fun w0 hw0 => ?_)
 simp only [fu29, hFb, ↓ZD, ZW, simprocAttr]
 refine NewB.of fun b4 hb4 hF4 => ?_
 simp only [List.forall_mem_cons, List.not_mem_nil, false_implies, implies_true, and_true] at hb4
 simp only [hFb, hF4, ↓ZD, ZW, simprocAttr]
 refine NewB.of fun b5 hb5 hF5 => ?_
 simp only [List.forall_mem_cons, List.not_mem_nil, false_implies, implies_true, and_true] at hb5
 obtain ⟨n45, n5⟩ := hb5
 simp only [hFb, hF4, hF5, ↓ZD, ZW, simprocAttr]
 refine NewB.of fun b6 hb6 hF6 => ?_
 simp only [List.forall_mem_cons, List.not_mem_nil, false_implies, implies_true, and_true] at hb6
 obtain ⟨n56, n46, n6⟩ := hb6
 simp only [hFb, hF4, hF5, hF6, ↓ZD, ZW, simprocAttr]
 have m4 := Ne.symm hb4
 have m5 := Ne.symm n5
 have m6 := Ne.symm n6
 refine CallE.rp1 [(b6, .cells #[.string (bs nm)] 9 (0, 0)), (b5, ScO sc0 v0), (b4, ScO sc0 v0)] (pmust_rd _ (l := .slice (some ⟨bw, 0, none⟩) ws.length cap) (ts := [nm]) (hW.mono le_up) hE (rdObj_none hFb (by simp [m4, m5, m6])) hp (slsN (l := [nm]) (b := b6) (T := 9) (by simp [rdObj, hF6, lk]) (by simp) (by simpa using hnm))) (by simp) (by simp [sc0]) (by simp [m4, m5, m6]) ?_
 rw [show mustsS ws p [nm] = mustS ws p nm from rfl]
 have hs1 := mustS_p (ws := ws) (t := nm) hp
 unfold scopeP
 generalize mustS ws p nm = s1 at *
 simp only [hFb, hF4, hF5, hF6, ↓ZD, ZW, simprocAttr]
 refine CallE.rp1 [(b6, .cells #[.string (bs nm)] 9 (0, 0)), (b5, ScO sc0 v0), (b4, ScO sc0 v0)] (pskip_rd _ (l := .slice (some ⟨bw, 0, none⟩) ws.length cap) (hW.mono le_up) hE (rdObj_none hFb (by simp [m4, m5, m6])) hs1 [61, 61]) List.mem_cons_self (fun e he => List.mem_cons_of_mem _ he) (by simp [m4, m5, m6]) ?_
 cases i1 : isS ws s1 [61, 61] with
 | true =>
  have hr := isS_range i1
  simp only [i1, if_true]
  simp (disch := first | assumption | exact Ne.symm (by assumption) | omega) only [hFb, hF4, hF5, hF6, i1, ↓ZD, ZW, simprocAttr]
  refine CallE.does [(b, RdP (.slice (some ⟨bw, 0, none⟩) ws.length cap) (adv s1)), (b5, ScO (kindS 1 []) v0)] [(b6, .cells #[.string (bs nm)] 9 (0, 0)), (b4, ScO sc0 v0)] (pplace_does _ hws (hW.mono le_up) hE n5 (rdObj_none hFb (by simp [m4, m6])) (rdObj_none hF5 (by simp [n45, Ne.symm n56])) (by show 0 ≤ s1.p + 1; omega) (kindS 1 []) rfl nm) (fun _ _ h => h) (by simp [kindS, sc0]) (by simp [sc0]) (by simp [n45, n56, Ne.symm n45, hb4, n6]) ?_
  rintro _ _ ⟨rfl, rfl⟩ - - -
  generalize placeP ws (adv s1) (kindS 1 []) nm = Y
  simp (disch := first | assumption | exact Ne.symm (by assumption) | omega) only [hFb, hF4, hF5, hF6, n45, n56, n46, hb4, n5, n6, ↓ZD, ZW, simprocAttr]
  simp [scV]
 | false =>
  simp only [i1, if_false, Bool.false_eq_true]
  simp (disch := first | assumption | exact Ne.symm (by assumption) | omega) only [hFb, hF4, hF5, hF6, i1, ↓ZD, ZW, simprocAttr]
  refine CallE.rp1 [(b6, .cells #[.string (bs nm)] 9 (0, 0)), (b5, ScO sc0 v0), (b4, ScO sc0 v0)] (pskip_rd _ (l := .slice (some ⟨bw, 0, none⟩) ws.length cap) (hW.mono le_up) hE (rdObj_none hFb (by simp [m4, m5, m6])) hs1 [105, 110]) List.mem_cons_self (fun e he => List.mem_cons_of_mem _ he) (by simp [m4, m5, m6]) ?_
  cases i2 : isS ws s1 [105, 110] with
  | true =>
   have hr := isS_range i2
   simp only [i2, if_true]
   simp (disch := first | assumption | exact Ne.symm (by assumption) | omega) only [hFb, hF4, hF5, hF6, i2, ↓ZD, ZW, simprocAttr]
   refine CallE.does [(b, RdP (.slice (some ⟨bw, 0, none⟩) ws.length cap) (adv s1)), (b5, ScO (kindS 2 []) v0)] [(b6, .cells #[.string (bs nm)] 9 (0, 0)), (b4, ScO sc0 v0)] (pplace_does _ hws (hW.mono le_up) hE n5 (rdObj_none hFb (by simp [m4, m6])) (rdObj_none hF5 (by simp [n45, Ne.symm n56])) (by show 0 ≤ s1.p + 1; omega) (kindS 2 []) rfl nm) (fun _ _ h => h) (by simp [kindS, sc0]) (by simp [sc0]) (by simp [n45, n56, Ne.symm n45, hb4, n6]) ?_
   rintro _ _ ⟨rfl, rfl⟩ - - -
   generalize placeP ws (adv s1) (kindS 2 []) nm = Y
   simp (disch := first | assumption | exact Ne.symm (by assumption) | omega) only [hFb, hF4, hF5, hF6, n45, n56, n46, hb4, n5, n6, ↓ZD, ZW, simprocAttr]
   simp [scV]
  | false =>
   simp only [i2, if_false, Bool.false_eq_true]
   simp (disch := first | assumption | exact Ne.symm (by assumption) | omega) only [hFb, hF4, hF5, hF6, i2, ↓ZD, ZW, simprocAttr]
   refine CallE.rp1 [(b6, .cells #[.string (bs nm)] 9 (0, 0)), (b5, ScO sc0 v0), (b4, ScO sc0 v0)] (pskip_rd _ (l := .slice (some ⟨bw, 0, none⟩) ws.length cap) (hW.mono le_up) hE (rdObj_none hFb (by simp [m4, m5, m6])) hs1 [105, 115]) List.mem_cons_self (fun e he => List.mem_cons_of_mem _ he) (by simp [m4, m5, m6]) ?_
   cases i3 : isS ws s1 [105, 115] with
   | true =>
    have hr := isS_range i3
    simp only [i3, if_true]
    simp (disch := first | assumption | exact Ne.symm (by assumption) | omega) only [hFb, hF4, hF5, hF6, i3, ↓ZD, ZW, simprocAttr]
    refine CallE.rp1 [(b6, .cells #[.string (bs nm)] 9 (0, 0)), (b5, ScO sc0 v0), (b4, ScO sc0 v0)] (ppath_rd _ hws (l := .slice (some ⟨bw, 0, none⟩) ws.length cap) (hW.mono le_up) hE (rdObj_none hFb (by simp [m4, m5, m6])) (p := adv s1) (by show 0 ≤ s1.p + 1; omega) (by show s1.p + 1 ≤ (ws.length : Int); omega)) List.mem_cons_self (fun e he => List.mem_cons_of_mem _ he) (by simp [m4, m5, m6]) ?_
    have hp3 := pathS_p (ws := ws) (p := adv s1) (by show 0 ≤ s1.p + 1; omega)
    generalize pathS ws (adv s1) = t at *
    simp (disch := first | assumption | exact Ne.symm (by assumption) | omega) only [hFb, hF4, hF5, hF6, i3, ↓ZD, ZW, simprocAttr]
    refine CallE.rp1 [(b6, .cells #[.string (bs nm)] 9 (0, 0)), (b5, ScO (kindS 3 t.1) v0), (b4, ScO sc0 v0)] (pskip_rd _ (l := .slice (some ⟨bw, 0, none⟩) ws.length cap) (hW.mono le_up) hE (rdObj_none hFb (by simp [m4, m5, m6])) hp3 [105, 110]) List.mem_cons_self (fun e he => List.mem_cons_of_mem _ he) (by simp [m4, m5, m6]) ?_
    cases i4 : isS ws t.2 [105, 110] with
    | true =>
     have hr4 := isS_range i4
     simp only [if_true]
     simp (disch := first | assumption | exact Ne.symm (by assumption) | omega) only [hFb, hF4, hF5, hF6, i4, ↓ZD, ZW, simprocAttr]
     refine CallE.does [(b, RdP (.slice (some ⟨bw, 0, none⟩) ws.length cap) (adv t.2)), (b5, ScO (kindS 4 t.1) v0)] [(b6, .cells #[.string (bs nm)] 9 (0, 0)), (b4, ScO sc0 v0)] (pplace_does _ hws (hW.mono le_up) hE n5 (rdObj_none hFb (by simp [m4, m6])) (rdObj_none hF5 (by simp [n45, Ne.symm n56])) (by show 0 ≤ t.2.p + 1; omega) (kindS 4 t.1) rfl nm) (fun _ _ h => h) (by simp [kindS, sc0]) (by simp [sc0]) (by simp [n45, n56, Ne.symm n45, hb4, n6]) ?_
     rintro _ _ ⟨rfl, rfl⟩ - - -
     generalize placeP ws (adv t.2) (kindS 4 t.1) nm = Y
     simp (disch := first | assumption | exact Ne.symm (by assumption) | omega) only [hFb, hF4, hF5, hF6, n45, n56, n46, hb4, n5, n6, ↓ZD, ZW, simprocAttr]
     simp [scV]
    | false =>
     simp only [if_false, Bool.false_eq_true]
     simp (disch := first | assumption | exact Ne.symm (by assumption) | omega) only [hFb, hF4, hF5, hF6, i4, ↓ZD, ZW, simprocAttr]
     simp [scV, kindS]
   | false =>
    simp only [i3, if_false, Bool.false_eq_true]
    simp (disch := first | assumption | exact Ne.symm (by assumption) | omega) only [hFb, hF4, hF5, hF6, i3, ↓ZD, ZW, simprocAttr]
    simp [scV, sc0]
end Go.Proofs.YtnenbihkcjgddaaGreatDoor
namespace Go.Proofs.YtnenbihkcjgddaaGreatDoor
open Go Go.Eng
set_option maxHeartbeats 1000000
set_option linter.unusedSimpArgs false
set_option linter.unusedVariables false
set_option maxRecDepth 20000
theorem hasSlL_drop {l : List Ex'} {i : Nat} {x : Ex'} (h : l[i]? = some x) (t : Str) : hasSlL (l.drop i) t = (hasSl x t || hasSlL (l.drop (i + 1)) t) := by
 obtain ⟨hi, rfl⟩ := List.getElem?_eq_some_iff.mp h
 rw [List.drop_eq_getElem_cons hi, hasSlL]
theorem slotted_pure (F : Base) (t : Str) {cs : List Value} {e : Ex'} (h : RepX F cs e) : PureV Tryz.prog F 11 #[.agg cs.toArray, .string (bs t)] (.bool (hasSl e t)) := by
 induction h with
 | mk op v u1 u2 nm a1 c1 kids g1 vn names hu hop hk hn hl1 hc1 h1 r1 hN i1 =>
  obtain ⟨an, cn, rfl, hcn, -⟩ := hN
  refine pureV_of_svc (args := [.agg (xcells op v u1 u2 nm (.slice a1 kids.length c1) (.slice an names.length cn)).toArray, .string (bs t)]) mixed Tryz.func11 low11 (Nat.le_of_ble_eq_true rfl) (fun w0 => ?_)
  unfold xcells
  simp (disch := first | assumption | exact Ne.symm (by assumption) | omega) only [fu11, ↓ZD, ZW, simprocAttr]
  refine NewB.of fun b1 hb1 hF1 => ?_
  rw [hasSl]
  simp (disch := first | assumption | exact Ne.symm (by assumption) | omega) only [hF1, ↓ZD, ZW, simprocAttr]
  generalize (op == 3 && nm == t) = f0
  cases f0 with
  | true => simp (disch := first | assumption | exact Ne.symm (by assumption) | omega) only [hF1, ↓ZD, ZW, simprocAttr]
  | false =>
   rw [Bool.false_or]
   simp (disch := first | assumption | exact Ne.symm (by assumption) | omega) only [hF1, ↓ZD, ZW, simprocAttr]
   refine LoopL.inv (α := Nat) (fun i => i ≤ kids.length ∧ hasSlL kids t = hasSlL (kids.drop i) t)
    (fun i => [(1, some (.string (bs t))), (2, some (.pointer (some ⟨b1, 0, none⟩))), (5, some (.int .i64 i))])
    (fun i => [(b1, .cells (xcells op v u1 u2 nm (.slice a1 kids.length c1) (.slice an names.length cn)).toArray 39 (0, 0))])
    (fun i => kids.length - i) 0 ⟨Nat.zero_le _, rfl⟩ (by (simp (disch := first | assumption | exact Ne.symm (by assumption) | omega) only [↓ZD, ZW, simprocAttr]; try trivial)) ?_ ?_
   ·simp only [HLe_nil, HLe_cons, xcells]
    simp (disch := first | assumption | exact Ne.symm (by assumption) | omega) only [↓ZD, ZW, simprocAttr]
   ·rintro i ⟨hi, hfw⟩
    rw [hfw]
    by_cases hlt : i < kids.length
    ·have hd : decide ((i : Int) < (kids.length : Int)) = true := by simp; omega
     have gx := getX hlt
     have hc := i1 i _ gx
     obtain ⟨q1, q2, q3, q4, q5, q6, q7, q8, q9, q10, q11, q12, q13, q14, q15, q16, q17, q18, q19, q20, e1⟩ := (r1 i _ gx).form
     obtain ⟨ba, oa, rfl, hla⟩ := (h1 i _ gx).ldn
     rw [e1] at hc hla
     have hs := hasSlL_drop gx t
     rw [hs]
     unfold xcells
     simp (disch := first | assumption | exact Ne.symm (by assumption) | omega) only [hF1, hd, ↓ZD, ZW, simprocAttr]
     refine conj.of (by omega) ?_
     simp (disch := first | assumption | exact Ne.symm (by assumption) | omega) only [hF1, hd, Int.toNat_natCast, ↓hla, ↓ZD, ZW, simprocAttr]
     refine CallE.pure hc ?_
     cases hb : hasSl (kids.getD i nilX) t
     ·simp (disch := first | assumption | exact Ne.symm (by assumption) | omega) only [hF1, hd, ↓ZD, ZW, simprocAttr]
      refine invK.on (i + 1) ⟨by omega, by first | rfl | simp only [hb, Bool.false_or]⟩ (by omega) (by (simp (disch := first | assumption | exact Ne.symm (by assumption) | omega) only [↓ZD, ZW, simprocAttr]; try trivial)) ?_
      simp only [HLe_nil, HLe_cons, xcells]
      simp (disch := first | assumption | exact Ne.symm (by assumption) | omega) only [↓ZD, ZW, simprocAttr]
     ·simp (disch := first | assumption | exact Ne.symm (by assumption) | omega) only [hF1, hd, ↓ZD, ZW, simprocAttr]
    ·have hd : decide ((kids.length : Int) < (kids.length : Int)) = false := by simp
     obtain rfl : i = kids.length := by omega
     rw [List.drop_length, hasSlL]
     unfold xcells
     simp (disch := first | assumption | exact Ne.symm (by assumption) | omega) only [hF1, hd, ↓ZD, ZW, simprocAttr]
theorem slots_pure (F : Base) (t : Str) {cs : List Value} {e : Ex'} (h : RepX F cs e) : PureV Tryz.prog F 60 #[.agg cs.toArray, .string (bs t)] (.bool (hasSl e t)) := by
 induction h with
 | mk op v u1 u2 nm a1 c1 kids g1 vn names hu hop hk hn hl1 hc1 h1 r1 hN i1 =>
  obtain ⟨an, cn, rfl, hcn, -⟩ := hN
  refine pureV_of_svc (args := [.agg (xcells op v u1 u2 nm (.slice a1 kids.length c1) (.slice an names.length cn)).toArray, .string (bs t)]) mixed Tryz.func60 low60 (Nat.le_of_ble_eq_true rfl) (fun w0 => ?_)
  unfold xcells
  simp (disch := first | assumption | exact Ne.symm (by assumption) | omega) only [fu60, ↓ZD, ZW, simprocAttr]
  refine NewB.of fun b1 hb1 hF1 => ?_
  rw [hasSl]
  simp (disch := first | assumption | exact Ne.symm (by assumption) | omega) only [hF1, ↓ZD, ZW, simprocAttr]
  generalize (op == 3 && nm == t) = f0
  refine LoopL.inv (α := Nat × Bool) (fun x => x.1 ≤ kids.length ∧ (f0 || hasSlL kids t) = (x.2 || hasSlL (kids.drop x.1) t))
   (fun x => [(1, some (.string (bs t))), (5, some (.bool x.2)), (18, some (.slice a1 kids.length c1)), (19, some (.int .i64 kids.length)), (20, some (.int .i64 x.1))])
   (fun x => []) (fun x => kids.length - x.1) (0, f0) ⟨Nat.zero_le _, rfl⟩ (by (simp (disch := first | assumption | exact Ne.symm (by assumption) | omega) only [↓ZD, ZW, simprocAttr]; try trivial)) trivial ?_
  rintro ⟨i, f⟩ ⟨hi, hfw⟩
  simp only at hi hfw ⊢
  rw [hfw]
  by_cases hlt : i < kids.length
  ·have hd : decide ((i : Int) < (kids.length : Int)) = true := by simp; omega
   have gx := getX hlt
   have hc := i1 i _ gx
   obtain ⟨q1, q2, q3, q4, q5, q6, q7, q8, q9, q10, q11, q12, q13, q14, q15, q16, q17, q18, q19, q20, e1⟩ := (r1 i _ gx).form
   obtain ⟨ba, oa, rfl, hla⟩ := (h1 i _ gx).ldn
   rw [e1] at hc hla
   have hs := hasSlL_drop gx t
   rw [hs]
   simp (disch := first | assumption | exact Ne.symm (by assumption) | omega) only [hF1, hd, ↓ZD, ZW, simprocAttr]
   refine conj.of (by omega) ?_
   simp (disch := first | assumption | exact Ne.symm (by assumption) | omega) only [hF1, hd, Int.toNat_natCast, ↓hla, ↓ZD, ZW, simprocAttr]
   refine NewB.of fun b2 hb2 hF2 => ?_
   simp (disch := first | assumption | exact Ne.symm (by assumption) | omega) only [hF2, ↓ZD, ZW, simprocAttr]
   refine CallQ.of _ (fun _ w hw => hc w fun b o hb => hw b o (le_up b o hb)) ?_
   simp (disch := first | assumption | exact Ne.symm (by assumption) | omega) only [hF2, ↓ZD, ZW, simprocAttr]
   refine invK.on (i + 1, f || hasSl (kids.getD i nilX) t) ⟨by simp only; omega, by simp only [Bool.or_assoc]⟩ (by simp only; omega) ?_ trivial
   simp only [Le_nil, Le_cons]
   cases f <;> simp (disch := first | assumption | exact Ne.symm (by assumption) | omega) only [↓ZD, ZW, simprocAttr] <;> try simp
  ·have hd : decide ((kids.length : Int) < (kids.length : Int)) = false := by simp
   obtain rfl : i = kids.length := by omega
   rw [List.drop_length, hasSlL, Bool.or_false]
   simp (disch := first | assumption | exact Ne.symm (by assumption) | omega) only [hF1, hd, ↓ZD, ZW, simprocAttr]
end Go.Proofs.YtnenbihkcjgddaaGreatDoor
namespace Go.Proofs.YtnenbihkcjgddaaGreatDoor
open Go Go.Eng
set_option maxHeartbeats 1000000
set_option linter.unusedSimpArgs false
set_option linter.unusedVariables false
set_option maxRecDepth 20000
theorem w1_endW : ∀ (n a : Nat) (s : List UInt8) (l : List (Wd × Nat)), s.length < n → w1 n a s = .ok l → l ≠ [] ∧ EndW l
 | 0, _, s, l, hn, h => by omega
 | n + 1, a, s, l, hn, h => by
  rw [w1] at h
  split at h
  ·injection h with h; subst h
   exact ⟨by simp, rfl⟩
  ·rename_i hne
   split at h
   ·cases h
   ·rename_i w m hk
    split at h
    ·cases h
    ·rename_i l' hl
     injection h with h; subst h
     have h1 := tok_len hk
     have hpos : 0 < s.length := List.length_pos_iff.2 hne
     have h2 : (s.drop (m + blankN (s.drop m))).length < n := by rw [List.length_drop]; omega
     obtain ⟨i1, i2⟩ := w1_endW n _ _ l' h2 hl
     have hl' := List.length_pos_iff.2 i1
     refine ⟨by simp, ?_⟩
     unfold EndW at *
     rw [List.length_cons, show l'.length + 1 - 1 = (l'.length - 1) + 1 by omega, List.getD_cons_succ]
     exact i2
theorem words_endW {s : List UInt8} {l : List (Wd × Nat)} (h : words s = .ok l) : EndW l :=
 (w1_endW _ _ _ l (by rw [List.length_drop]; omega) h).2
end Go.Proofs.YtnenbihkcjgddaaGreatDoor
