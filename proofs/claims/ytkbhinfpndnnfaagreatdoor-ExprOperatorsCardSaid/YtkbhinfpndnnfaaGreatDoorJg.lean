/- Joined. -/
import Derived.Test.YtkbhinfpndnnfaaGreatDoorJf
set_option linter.unusedSectionVars false
namespace Go.Proofs.YtkbhinfpndnnfaaGreatDoor
open Go Go.Eng
set_option maxHeartbeats 1000000
set_option linter.unusedSimpArgs false
set_option linter.unusedVariables false
set_option maxRecDepth 20000
theorem parse_dep (s : Str) : depX (parseS s).1 ≤ 50 := by
 have h1 : depX nilX ≤ 50 := by decide
 unfold parseS
 split
 ·exact h1
 ·split
  ·exact h1
  ·unfold parseL
   split
   ·exact h1
   ·split
    ·exact h1
    ·split
     ·exact h1
     ·simp only; omega
theorem k63 (x : Int) : (BitVec.ofInt 64 x &&& 63#64).toNat ≤ 63 := by
 rw [BitVec.toNat_and]
 exact Nat.le_trans Nat.and_le_right (by decide)
theorem deep_law (F : Base) (hg : HasMarks F) (hMx : HasMx F) (kind n : Int) : PureV Tryz.prog F 4 #[.int .i64 kind, .int .i64 n] (.bool true) := by
 refine pureV_of_svc (args := [.int .i64 kind, .int .i64 n]) mixed Tryz.func4 low4 (Nat.le_of_ble_eq_true rfl) (fun w0 => ?_)
 simp (disch := first | assumption | exact Ne.symm (by assumption) | omega) only [fu4, ↓ZD, ZW, simprocAttr]
 refine CallE.pure (awake_pure F hg hMx) ?_
 simp (disch := first | assumption | exact Ne.symm (by assumption) | omega) only [↓ZD, ZW, simprocAttr]
 have h63 := k63 n
 have hw : IntKind.i64.wrap ((BitVec.ofInt 64 n &&& 63#64).toNat : Int) = ((BitVec.ofInt 64 n &&& 63#64).toNat : Int) := by rw [wrap_i64]; omega
 rw [hw]
 generalize (BitVec.ofInt 64 n &&& 63#64).toNat = k at *
 clear hw
 refine LoopL.inv (α := Nat × Str × Str) (fun x => x.1 ≤ k ∧ x.2.1.length ≤ 20 * x.1 ∧ x.2.2.length ≤ 20 * x.1) (fun x => [(0, some (.int .i64 kind)), (6, some (.int .i64 k)), (7, some (.string (bs x.2.1))), (8, some (.string (bs x.2.2))), (9, some (.int .i64 x.1))]) (fun x => []) (fun x => k - x.1) (0, [], []) ⟨Nat.zero_le _, Nat.le_refl _, Nat.le_refl _⟩ (by (simp (disch := first | assumption | exact Ne.symm (by assumption) | omega) only [↓ZD, ZW, simprocAttr]; try trivial)) (by (try (simp (disch := first | assumption | exact Ne.symm (by assumption) | omega) only [↓ZD, ZW, simprocAttr]); try trivial)) ?_
 rintro ⟨i, s, t⟩ ⟨hi, hs, ht⟩
 simp only at hi hs ht ⊢
 by_cases hlt : i < k
 ·have hd : decide ((i : Int) < (k : Int)) = true := by simp; omega
  simp (disch := first | assumption | exact Ne.symm (by assumption) | omega) only [hd, ↓ZD, ZW, simprocAttr]
  refine ⟨fun _ => ?_, fun _ => ⟨fun _ => ?_, fun _ => ⟨fun _ => ?_, fun _ => ?_⟩⟩⟩
  ·refine conj.of (by omega) ?_
   simp (disch := first | assumption | exact Ne.symm (by assumption) | omega) only [hd, ↓ZD, ZW, simprocAttr]
   refine conj.of (by omega) ?_
   simp (disch := first | assumption | exact Ne.symm (by assumption) | omega) only [hd, ↓ZD, ZW, simprocAttr]
   refine invK.on (i + 1, s ++ [40], t ++ [41]) ⟨by show i + 1 ≤ k; omega, by simp only [List.length_append, List.length_cons, List.length_nil]; omega, by simp only [List.length_append, List.length_cons, List.length_nil]; omega⟩ (by show k - (i + 1) < k - i; omega) (by (simp (disch := first | assumption | exact Ne.symm (by assumption) | omega) only [↓ZD, ZW, simprocAttr]; try trivial)) trivial
  ·refine conj.of (by omega) ?_
   simp (disch := first | assumption | exact Ne.symm (by assumption) | omega) only [hd, ↓ZD, ZW, simprocAttr]
   refine invK.on (i + 1, s ++ [33], t) ⟨by show i + 1 ≤ k; omega, by simp only [List.length_append, List.length_cons, List.length_nil]; omega, by simp only [List.length_append, List.length_cons, List.length_nil]; omega⟩ (by show k - (i + 1) < k - i; omega) (by (simp (disch := first | assumption | exact Ne.symm (by assumption) | omega) only [↓ZD, ZW, simprocAttr]; try trivial)) trivial
  ·refine conj.of (by omega) ?_
   simp (disch := first | assumption | exact Ne.symm (by assumption) | omega) only [hd, ↓ZD, ZW, simprocAttr]
   refine invK.on (i + 1, s, t ++ [32, 43, 32, 49]) ⟨by show i + 1 ≤ k; omega, by simp only [List.length_append, List.length_cons, List.length_nil]; omega, by simp only [List.length_append, List.length_cons, List.length_nil]; omega⟩ (by show k - (i + 1) < k - i; omega) (by (simp (disch := first | assumption | exact Ne.symm (by assumption) | omega) only [↓ZD, ZW, simprocAttr]; try trivial)) trivial
  ·refine conj.of (by omega) ?_
   simp (disch := first | assumption | exact Ne.symm (by assumption) | omega) only [hd, ↓ZD, ZW, simprocAttr]
   refine invK.on (i + 1, s ++ [105, 102, 32, 116, 114, 117, 101, 32, 116, 104, 101, 110, 32, 49, 32, 101, 108, 115, 101, 32], t) ⟨by show i + 1 ≤ k; omega, by simp only [List.length_append, List.length_cons, List.length_nil]; omega, by simp only [List.length_append, List.length_cons, List.length_nil]; omega⟩ (by show k - (i + 1) < k - i; omega) (by (simp (disch := first | assumption | exact Ne.symm (by assumption) | omega) only [↓ZD, ZW, simprocAttr]; try trivial)) trivial
 obtain rfl : i = k := by omega
 have hd : decide ((i : Int) < (i : Int)) = false := by simp
 simp (disch := first | assumption | exact Ne.symm (by assumption) | omega) only [hd, ↓ZD, ZW, simprocAttr]
 refine conj.of (by omega) ?_
 simp (disch := first | assumption | exact Ne.symm (by assumption) | omega) only [hd, ↓ZD, ZW, simprocAttr]
 refine conj.of (by first | omega | (simp only [List.length_append, List.length_cons, List.length_nil]; omega)) ?_
 simp (disch := first | assumption | exact Ne.symm (by assumption) | omega) only [hd, ↓ZD, ZW, simprocAttr]
 have hT : (s ++ [49] ++ t).length ≤ 9223372036854775807 := by simp only [List.length_append, List.length_cons, List.length_nil]; omega
 have hsz : s.length + 1 + t.length ≤ 9223372036854775807 := by omega
 have hs1 : s.length ≤ 9223372036854775806 := by omega
 refine CallE.news (parse_does _ (hg.mono le_up) (hMx.mono le_up) (s ++ [49] ++ t) hT) ?_
 have hdep := parse_dep (s ++ [49] ++ t)
 generalize hR : parseS (s ++ [49] ++ t) = R at *
 rintro r H1 ⟨cs1, rfl, hc1, hr1⟩ n1 d1 u1
 have hr1 : RepP (rdObj F H1) cs1 R.1 := hr1.mono fun b o h => u1 b o h
 have c1 := hc1.1
 have k1 := hc1.2
 have t1 : cs1.take 12 = cs1 := List.take_of_length_le (Nat.le_of_eq c1)
 have z1 : cs1.drop 12 = [] := List.drop_eq_nil_of_le (Nat.le_of_eq c1)
 clear u1 d1 n1 hc1
 simp only [List.nil_append]
 simp (disch := first | assumption | exact Ne.symm (by assumption) | omega) only [hd, c1, k1, t1, z1, ↓ZD, ZW, simprocAttr]
 refine NewB.of fun b1 hb1 hF1 => ?_
 have hu1 : ∀ o, upd H1 b1 o = H1 := fun o => upd_new hb1
 simp (disch := first | assumption | exact Ne.symm (by assumption) | omega) only [hF1, hu1, c1, k1, t1, z1, ↓ZD, ZW, simprocAttr]
 refine conj.of (by first | omega | (simp only [List.length_append, List.length_cons, List.length_nil]; omega)) ?_
 simp (disch := first | assumption | exact Ne.symm (by assumption) | omega) only [hF1, hu1, c1, k1, t1, z1, ↓ZD, ZW, simprocAttr]
 refine conj.of (by first | omega | (simp only [List.length_append, List.length_cons, List.length_nil]; omega)) ?_
 simp (disch := first | assumption | exact Ne.symm (by assumption) | omega) only [hF1, hu1, c1, k1, t1, z1, ↓ZD, ZW, simprocAttr]
 refine CallE.news (rparse_does _ (s ++ [49] ++ t) hT) ?_
 rw [hR]
 rintro r H2 ⟨cs2, rfl, hc2, hr2⟩ n2 d2 u2
 have hr2 := hr2.mono fun b o h => u2 b o h
 have c2 := hc2.1
 have k2 := hc2.2
 have t2 : cs2.take 12 = cs2 := List.take_of_length_le (Nat.le_of_eq c2)
 have z2 : cs2.drop 12 = [] := List.drop_eq_nil_of_le (Nat.le_of_eq c2)
 have e21 : ∀ e ∈ H2, e.1 ≠ b1 := fun e he => d2 _ List.mem_cons_self e he
 have hr1 := hr1.mono fun b o h => rdObj_app1 (Hx := H2) h
 have g1 := all_app (P := fun e => e.1 ≠ b1) hb1 e21
 clear u2 d2 n2 hc2 hb1 e21 hu1
 simp only [List.cons_append] at hr2 ⊢
 have hr1 : RepP (rdObj F ((b1, .cells cs1.toArray 38 (0, 0)) :: (H1 ++ H2))) cs1 R.1 := hr1.mono fun b o h => rdObj_r (G := [(b1, _)]) (all_cons (P := fun e => ∀ e' ∈ H1 ++ H2, e'.1 ≠ e.1) g1 all_nil) h
 generalize H1 ++ H2 = H3 at *
 have hu1 : ∀ o, upd H3 b1 o = H3 := fun o => upd_new g1
 simp (disch := first | assumption | exact Ne.symm (by assumption) | omega) only [hF1, hu1, c1, k1, t1, z1, c2, k2, t2, z2, ↓ZD, ZW, simprocAttr]
 refine NewB.of fun b2 hb2 hF2 => ?_
 have n12 : b1 ≠ b2 := hb2 (b1, _) List.mem_cons_self
 have g2 : ∀ e ∈ H3, e.1 ≠ b2 := fun e he => hb2 e (List.mem_cons_of_mem _ he)
 have hu2 : ∀ o, upd H3 b2 o = H3 := fun o => upd_new g2
 simp (disch := first | assumption | exact Ne.symm (by assumption) | omega) only [hF1, hF2, hu1, hu2, c1, k1, t1, z1, c2, k2, t2, z2, beq_self_eq_true, ↓ZD, ZW, simprocAttr]
 have hG : ∀ e ∈ [((b2, .cells cs2.toArray 38 (0, 0)) : Nat × Obj)], ∀ e' ∈ (b1, .cells cs1.toArray 38 (0, 0)) :: H3, e'.1 ≠ e.1 := all_cons (P := fun e => ∀ e' ∈ (b1, .cells cs1.toArray 38 (0, 0)) :: H3, e'.1 ≠ e.1) hb2 all_nil
 have ha1 := hr1.mono fun b o h => rdObj_r hG h
 have ha2 := hr2.mono fun b o h => rdObj_r hG h
 refine CallQ.of _ (same_pure _ ha1 ha2) ?_
 have hle : decide ((depX R.1 : Int) ≤ 50) = true := by simp; omega
 by_cases he : R.2.1 = 0
 ·have hde : (R.2.1 != 0) = false := by simpa using he
  simp (disch := first | assumption | exact Ne.symm (by assumption) | omega) only [hF1, hF2, hu1, hu2, c1, k1, t1, z1, c2, k2, t2, z2, beq_self_eq_true, hde, ↓ZD, ZW, simprocAttr]
  refine CallQ.of _ (dep_pure _ ha1.toX (by omega)) ?_
  simp (disch := first | assumption | exact Ne.symm (by assumption) | omega) only [hF1, hF2, hu1, hu2, c1, k1, t1, z1, c2, k2, t2, z2, beq_self_eq_true, hde, ↓ZD, ZW, simprocAttr]
  refine CallQ.of _ (rdep_pure _ ha2.toX (by omega)) ?_
  simp (disch := first | assumption | exact Ne.symm (by assumption) | omega) only [hF1, hF2, hu1, hu2, c1, k1, t1, z1, c2, k2, t2, z2, beq_self_eq_true, hde, ↓ZD, ZW, simprocAttr]
  refine CallQ.of _ (dep_pure _ ha1.toX (by omega)) ?_
  simp (disch := first | assumption | exact Ne.symm (by assumption) | omega) only [hF1, hF2, hu1, hu2, c1, k1, t1, z1, c2, k2, t2, z2, beq_self_eq_true, hde, hle, ↓ZD, ZW, simprocAttr]
 ·have hde : (R.2.1 != 0) = true := by simpa using he
  simp (disch := first | assumption | exact Ne.symm (by assumption) | omega) only [hF1, hF2, hu1, hu2, c1, k1, t1, z1, c2, k2, t2, z2, beq_self_eq_true, hde, ↓ZD, ZW, simprocAttr]
  refine CallQ.of (.int .i64 0) trivial ?_
  simp (disch := first | assumption | exact Ne.symm (by assumption) | omega) only [hF1, hF2, hu1, hu2, c1, k1, t1, z1, c2, k2, t2, z2, beq_self_eq_true, hde, ↓ZD, ZW, simprocAttr]
  refine CallQ.of (.int .i64 0) trivial ?_
  simp (disch := first | assumption | exact Ne.symm (by assumption) | omega) only [hF1, hF2, hu1, hu2, c1, k1, t1, z1, c2, k2, t2, z2, beq_self_eq_true, hde, ↓ZD, ZW, simprocAttr]
  refine CallQ.of (.int .i64 0) trivial ?_
  simp (disch := first | assumption | exact Ne.symm (by assumption) | omega) only [hF1, hF2, hu1, hu2, c1, k1, t1, z1, c2, k2, t2, z2, beq_self_eq_true, hde, ↓ZD, ZW, simprocAttr]
end Go.Proofs.YtkbhinfpndnnfaaGreatDoor
namespace Go.Proofs.YtkbhinfpndnnfaaGreatDoor
open Go Go.Eng
set_option maxHeartbeats 1000000
set_option linter.unusedSimpArgs false
set_option linter.unusedVariables false
set_option maxRecDepth 20000
section
variable {X : List Nat} {F : Base} {w0 : World} {H : Hp} {K : Value → Hp → Prop} {Hl G : Hp}
theorem CallE.made {f : Nat} {args : Array Value} {Q : Value → Hp → Prop} [tl : Tl H Hl G] (h : Does Tryz.prog (rdObj F G) f args [] Q) (sd : Dj Hl G)
  (hk : ∀ v G1 G', Q v G1 → (∀ b o, rdObj (rdObj F G) G1 b = some o → rdObj F G' b = some o) → (Wk G → Wk G1 → Wk G') → Dj Hl G' ∧ (∀ b o, rdObj F G b = some o → rdObj F G' b = some o) → K v (Hl ++ G')) :
  @CallE Tryz.prog X F w0 f args H ⟨K⟩ := by
 obtain rfl := tl.eq
 have d1 := Dj.iff.1 sd
 refine CallG.frame (F1 := rdObj F G) (H0 := []) (Hr := Hl ++ G) h (fun b o hb => ?_) (fun e h => by cases h) (fun e h => h) (fun e' _ e h => by cases h) fun v H' hq n1 d2 _ => ?_
 ·unfold rdObj at *
  cases hF : F b with
  | some o2 => simpa [hF] using hb
  | none =>
   simp only [hF] at hb ⊢
   rw [lk_append, lk_none fun e he e2 => d1 e he _ (lk_mem hb) e2.symm]
   exact hb
 ·rw [List.append_assoc]
  exact hk v H' (G ++ H') hq (fun _ _ => rdObj_app) (fun w w' => w.app w' fun e he e' he' => d2 e (List.mem_append_right _ he) e' he') ⟨sd.app (Dj.iff.2 fun e he e' he' => d2 e (List.mem_append_left _ he) e' he'), fun _ _ => rdObj_app1⟩
end
theorem uid_both (x : Str × Str) : (x.1 == x.1 && x.2 == x.2) = true := by simp
theorem words_law (F : Base) (hg : HasMarks F) (hMx : HasMx F) (t : Str) (i : Int) (ht : t.length ≤ 9223372036854775807) : PureV Tryz.prog F 3 #[.string (bs t), .int .i64 i] (.bool true) := by
 refine pureV_of_svc (args := [.string (bs t), .int .i64 i]) mixed Tryz.func3 low3 (Nat.le_of_ble_eq_true rfl) (fun w0 => ?_)
 simp only [*, fu3, ↓ZD, ZW, RO, simprocAttr]
 refine CallE.pure (awake_pure F hg hMx) ?_
 simp only [*, ↓ZD, ZW, RO, simprocAttr]
 intro hl
 have hl : ¬ 65536 < t.length := by simp at hl; omega
 refine CallE.made (words_does (rdObj F []) (hg.mono le_up) t ht) (by simp only [*, ↓ZD, ZW, RO, simprocAttr]) ?_
 intro v G1 G' hv up1 wk1 d1
 unfold WordsPost at hv
 rw [if_neg hl] at hv
 cases hw : words t with
 | error y =>
  obtain ⟨e, a⟩ := y
  rw [hw] at hv
  obtain ⟨rfl, rfl⟩ := hv
  have he := w1_err _ _ _ _ hw
  have hd : (e != 0) = true := by simpa using he
  clear up1 wk1 d1
  simp only [*, ↓ZD, ZW, RO, simprocAttr]
  refine CallE.news (rwords_does _ t ht) ?_
  intro v H1 hv _ _ _
  unfold WordsPost at hv
  rw [if_neg hl, hw] at hv
  obtain ⟨rfl, rfl⟩ := hv
  simp only [*, ↓ZD, ZW, RO, simprocAttr]
 | ok l =>
  rw [hw] at hv
  obtain ⟨v, ho, rfl⟩ := hv
  have hok := words_ok (by omega) hw
  have hne := words_ne' hw
  rcases ho.out with ⟨h0, -⟩ | ⟨bw, cap, sp, rfl, rfl, hFw, h1, h2, h3, h4⟩
  ·exact absurd (cellsW_nil h0) hne
  have hW1 : HasW (rdObj F G') l (.slice (some ⟨bw, 0, none⟩) l.length cap) := ⟨bw, cap, sp, _, _, rfl, up1 _ _ (rdObj_hd hFw), h3, h4, hne⟩
  have w1 : Wk G' := wk1 Wk.nil (Wk.cb Wk.nil trivial)
  clear up1 wk1 d1 ho hFw
  simp only [*, ↓ZD, ZW, RO, simprocAttr]
  refine CallE.made (rwords_does (rdObj F G') t ht) (by simp only [*, ↓ZD, ZW, RO, simprocAttr]) ?_
  intro v G1 G2 hv up1 wk1 ⟨_, up2⟩
  unfold WordsPost at hv
  rw [if_neg hl, hw] at hv
  obtain ⟨v, ho, rfl⟩ := hv
  rcases ho.out with ⟨h0, -⟩ | ⟨bx, capx, spx, rfl, rfl, hFx, k1, k2, k3, k4⟩
  ·exact absurd (cellsW_nil h0) hne
  have hW2 : HasW (rdObj F G2) l (.slice (some ⟨bx, 0, none⟩) l.length capx) := ⟨bx, capx, spx, _, _, rfl, up1 _ _ (rdObj_hd hFx), k3, k4, hne⟩
  have hW1 := hW1.mono up2
  have w2 : Wk G2 := wk1 w1 (Wk.cb Wk.nil trivial)
  clear up1 up2 wk1 ho hFx w1
  clear h1 h2 h3 h4 k1 k2 k3 k4
  simp only [*, ↓ZD, ZW, RO, simprocAttr]
  refine CallE.made (read_does (rdObj F G2) (hMx.mono le_up) hok hW1 i) (by simp only [*, ↓ZD, ZW, RO, simprocAttr]) ?_
  rintro r G3 G4 ⟨cs1, rfl, c1, hr1, wk3⟩ up1 wk1 ⟨_, up2⟩
  have hr1 := hr1.mono up1
  have hW1 := hW1.mono up2
  have hW2 := hW2.mono up2
  have w4 := wk1 w2 wk3
  clear up1 up2 wk1 wk3 w2
  simp only [*, ↓ZD, ZW, RO, simprocAttr]
  refine NewB.n ?_
  rintro b1 hz _
  simp only [*, ↓ZD, ZW, RO, simprocAttr]
  refine CallE.made (rread_does (rdObj F G4) hok hW2 i) (by simp only [*, ↓ZD, ZW, RO, simprocAttr]) ?_
  rintro r G5 G6 ⟨cs2, rfl, c2, hr2, wk3⟩ up1 wk1 ⟨⟨_, _⟩, up2⟩
  have hr2 := hr2.mono up1
  have hr1 := hr1.mono up2
  have hW1 := hW1.mono up2
  have hW2 := hW2.mono up2
  have w6 := wk1 w4 wk3
  clear up1 up2 wk1 wk3 w4 hz
  simp only [*, ↓ZD, ZW, RO, simprocAttr]
  refine NewB.n ?_
  rintro b2 ⟨_, _, _⟩ _
  simp only [*, ↓ZD, ZW, RO, simprocAttr]
  have up : ∀ b o, rdObj F G6 b = some o → rdObj F ((b2, .cells cs2.toArray 38 (0, 0)) :: (b1, .cells cs1.toArray 38 (0, 0)) :: G6) b = some o := fun b o h => rdObj_sub (fun e he => by
   rw [lk_ne (Ne.symm (Nb.all (b := b2) (H := G6) ‹_› e he)), lk_ne (Ne.symm (Nb.all (b := b1) (H := G6) ‹_› e he))]; exact w6 e he) h
  refine CallE.pureH (same_pure _ (hr1.mono up) (hr2.mono up)) ?_
  have hW1 := hW1.mono up
  have hW2 := hW2.mono up
  have q1 := uid_both (uidR l i).1
  clear up
  generalize readS l i = R at *
  simp only [*, Bool.or_self, bne_self_eq_false, ↓ZD, ZW, RO, simprocAttr]
  refine CallE.pureH (uid_pure _ hok hW1 i) ?_
  simp only [*, ↓ZD, ZW, RO, simprocAttr]
  refine NewB.n ?_
  rintro b3 ⟨_, _, _, _, _⟩ _
  simp only [*, ↓ZD, ZW, RO, simprocAttr]
  refine CallE.pureH (ruidr_pure _ hok (hW2.mono fun b o h => rdObj_tl (Nb.all (by simp only [*, ↓ZD, ZW, RO, simprocAttr])) h) i) ?_
  simp only [*, ↓ZD, ZW, RO, simprocAttr]
  refine NewB.n ?_
  rintro b4 ⟨_, _, _, _, _, _, _⟩ _
  generalize uidR l i = U at *
  simp only [*, beq_self_eq_true, ↓ZD, ZW, RO, simprocAttr]
end Go.Proofs.YtkbhinfpndnnfaaGreatDoor
namespace Go.Proofs.YtkbhinfpndnnfaaGreatDoor
open Go Go.Eng
set_option maxHeartbeats 1000000
set_option linter.unusedSimpArgs false
set_option linter.unusedVariables false
set_option maxRecDepth 20000
def opdL : List Str := [[49], [33, 116, 114, 117, 101], [45, 50], [40, 51, 41], [112, 114, 105, 110, 99, 105, 112, 97, 108, 46, 97], [91, 49, 93], [99, 111, 110, 116, 101, 120, 116, 32, 104, 97, 115, 32, 120], [112, 114, 105, 110, 99, 105, 112, 97, 108, 32, 105, 115, 32, 85]]
def opsL : List Str := [[32, 124, 124, 32], [32, 38, 38, 32], [32, 61, 61, 32], [32, 60, 32], [32, 43, 32], [32, 45, 32], [32, 42, 32], [32, 105, 110, 32], [32, 62, 61, 32], [32, 33, 61, 32]]
def strsV (L : List Str) : List Value := L.map fun s => .string (bs s)
theorem strs_at {L : List Str} {T k : Nat} {fz : Nat × Nat} (h : k < L.length) : cellsO (some (.cells (strsV L).toArray T fz)) k 1 = some [.string (bs (L.getD k []))] := by
 rw [cellsO_of, if_pos (by unfold strsV; rw [List.length_map]; omega)]
 unfold strsV
 rw [← List.map_drop, List.drop_eq_getElem_cons h, List.getD_eq_getElem?_getD, List.getElem?_eq_getElem h]
 rfl
theorem and7 (x : Int) : (BitVec.ofInt 8 x &&& 7#8).toNat < 8 := by
 rw [BitVec.toNat_and]
 exact Nat.lt_of_le_of_lt Nat.and_le_right (by decide)
theorem wrap_u8_id {a : Nat} (h : a < 256) : IntKind.u8.wrap (a : Int) = a := by rw [wrap_u8]; omega
theorem operand_pure (F : Base) {a : Option Addr} {len cap : Nat} {g : Nat → Int} (hb : BytesIn F a len g) (i : Nat) : ∃ s : Str, s.length ≤ 20 ∧ PureV Tryz.prog F 18 #[.slice a len cap, .int .i64 i] (.string (bs s)) := by
 by_cases hlt : i < len
 ·have h7 := and7 (g i)
  obtain ⟨k, hk⟩ : ∃ k, (BitVec.ofInt 8 (g i) &&& 7#8).toNat = k := ⟨_, rfl⟩
  refine ⟨opdL.getD k [], ?_, ?_⟩
  ·have : ∀ k, k < 8 → (opdL.getD k []).length ≤ 20 := by decide
   exact this k (by omega)
  obtain ⟨b, off, rfl, hld⟩ := hb.2 i hlt
  refine pureV_of_svc (args := [.slice (some ⟨b, off, none⟩) len cap, .int .i64 i]) mixed Tryz.func18 low18 (Nat.le_of_ble_eq_true rfl) (fun w0 => ?_)
  have hd : decide ((i : Int) < (len : Int)) = true := by simp; omega
  have hw := wrap_u8_id (a := k) (by omega)
  have hs := fun (T : Nat) (fz : Nat × Nat) => strs_at (L := opdL) (T := T) (fz := fz) (k := k) (by show k < 8; omega)
  unfold strsV opdL at hs
  simp only [List.map_cons, List.map_nil] at hs
  rw [hk] at h7
  simp only [*, fu18, Int.toNat_natCast, Nat.mul_one, ↓hld, ↓ZD, ZW, RO, simprocAttr]
  refine NewB.n ?_
  intro b1 _ _
  simp only [*, Int.toNat_natCast, Nat.mul_one, ↓hld, ↓ZD, ZW, RO, simprocAttr]
  refine conj.of (by omega) ?_
  simp only [*, Int.toNat_natCast, Nat.mul_one, ↓hld, ↓ZD, ZW, RO, simprocAttr]
  refine conj.of (by omega) ?_
  simp only [*, Int.toNat_natCast, Nat.mul_one, ↓hld, ↓ZD, ZW, RO, simprocAttr]
  rfl
 ·refine ⟨[55], by decide, pureV_of_svc mixed Tryz.func18 low18 (Nat.le_of_ble_eq_true rfl) (fun w0 => ?_)⟩
  have hd : decide ((i : Int) < (len : Int)) = false := by simp; omega
  simp only [*, fu18, ↓ZD, ZW, RO, simprocAttr]
theorem ops_law (F : Base) (hg : HasMarks F) (hMx : HasMx F) (a : Option Addr) (len cap : Nat) (g : Nat → Int) (hb : BytesIn F a len g) (hl : len ≤ 9223372036854775807) (a2 : Option Addr) (len2 cap2 : Nat) (g2 : Nat → Int) (hb2 : BytesIn F a2 len2 g2) (hl2 : len2 ≤ 9223372036854775807) : PureV Tryz.prog F 5 #[.slice a len cap, .slice a2 len2 cap2] (.bool true) := by
 refine pureV_of_svc mixed Tryz.func5 low5 (Nat.le_of_ble_eq_true rfl) (fun w0 => ?_)
 simp (disch := first | assumption | exact Ne.symm (by assumption) | omega) only [fu5, ↓ZD, ZW, simprocAttr]
 refine CallE.pure (awake_pure F hg hMx) ?_
 simp (disch := first | assumption | exact Ne.symm (by assumption) | omega) only [↓ZD, ZW, simprocAttr]
 intro h12
 have h12' : len ≤ 12 := by simp at h12; omega
 refine NewB.n ?_
 intro b1 _ hF1
 simp (disch := first | assumption | exact Ne.symm (by assumption) | omega) only [hF1, ↓ZD, ZW, simprocAttr]
 obtain ⟨s0, hs0, hp0⟩ := operand_pure F hb2 (cap := cap2) 0
 refine CallE.pure hp0 ?_
 simp (disch := first | assumption | exact Ne.symm (by assumption) | omega) only [hF1, ↓ZD, ZW, simprocAttr]
 refine LoopL.inv (α := Nat × Str) (fun x => x.1 ≤ len ∧ x.2.length ≤ 40 * (x.1 + 1)) (fun x => [(0, some (.slice a len cap)), (1, some (.slice a2 len2 cap2)), (6, some (.slice (some ⟨b1, 0, none⟩) 10 10)), (7, some (.string (bs x.2))), (8, some (.int .i64 x.1))])
  (fun x => [(b1, .cells (strsV opsL).toArray 9 (0, 0))]) (fun x => len - x.1) (0, s0) ⟨Nat.zero_le _, by show s0.length ≤ 40; omega⟩ (by (simp (disch := first | assumption | exact Ne.symm (by assumption) | omega) only [↓ZD, ZW, simprocAttr]; try trivial)) (by unfold strsV opsL; simp only [List.map_cons, List.map_nil]; (try (simp (disch := first | assumption | exact Ne.symm (by assumption) | omega) only [↓ZD, ZW, simprocAttr]); try trivial)) ?_
 rintro ⟨i, s⟩ ⟨hi, hs⟩
 dsimp only at hi hs ⊢
 by_cases hlt : i < len
 ·have hd : decide ((i : Int) < (len : Int)) = true := by simp; omega
  obtain ⟨b, off, rfl, hld⟩ := hb.2 i hlt
  have hr := hb.1 i hlt
  obtain ⟨k, hk⟩ : ∃ k : Nat, (g i).tmod 10 = k := ⟨((g i).tmod 10).toNat, by rw [Int.tmod_eq_emod_of_nonneg (by omega)]; omega⟩
  have hk10 : k < 10 := by rw [Int.tmod_eq_emod_of_nonneg (by omega)] at hk; omega
  have hat := strs_at (L := opsL) (T := 9) (fz := (0, 0)) (k := k) hk10
  obtain ⟨s1, hs1, hp1⟩ := operand_pure F hb2 (cap := cap2) (i + 1)
  rw [show ((i + 1 : Nat) : Int) = (i : Int) + 1 from rfl] at hp1
  have hw : IntKind.i64.wrap ((i : Int) + 1) = (i : Int) + 1 := by rw [wrap_i64]; omega
  have hw8 := wrap_u8_id (a := k) (by omega)
  simp (disch := first | assumption | exact Ne.symm (by assumption) | omega) only [hd, hF1, Int.toNat_natCast, Nat.mul_one, ↓hld, hk, hw8, hat, hw, ↓ZD, ZW, simprocAttr]
  refine conj.of (by omega) ?_
  simp (disch := first | assumption | exact Ne.symm (by assumption) | omega) only [hd, hF1, Int.toNat_natCast, Nat.mul_one, ↓hld, hk, hw8, hat, hw, ↓ZD, ZW, simprocAttr]
  refine conj.of (by omega) ?_
  simp (disch := first | assumption | exact Ne.symm (by assumption) | omega) only [hd, hF1, Int.toNat_natCast, Nat.mul_one, ↓hld, hk, hw8, hat, hw, ↓ZD, ZW, simprocAttr]
  refine CallQ.of _ (hp1.mono le_up) ?_
  simp (disch := first | assumption | exact Ne.symm (by assumption) | omega) only [hd, hF1, Int.toNat_natCast, Nat.mul_one, ↓hld, hk, hw8, hat, hw, ↓ZD, ZW, simprocAttr]
  have ho : (opsL.getD k []).length ≤ 4 := by
   have : ∀ k, k < 10 → (opsL.getD k []).length ≤ 4 := by decide
   exact this k hk10
  refine conj.of (by omega) ?_
  simp (disch := first | assumption | exact Ne.symm (by assumption) | omega) only [hd, hF1, Int.toNat_natCast, Nat.mul_one, ↓hld, hk, hw8, hat, hw, ↓ZD, ZW, simprocAttr]
  refine conj.of (by omega) ?_
  simp (disch := first | assumption | exact Ne.symm (by assumption) | omega) only [hd, hF1, Int.toNat_natCast, Nat.mul_one, ↓hld, hk, hw8, hat, hw, ↓ZD, ZW, simprocAttr]
  refine invK.on (i + 1, s ++ (opsL.getD k [] ++ s1)) ⟨by show i + 1 ≤ len; omega, by simp only [List.length_append]; omega⟩ (by show len - (i + 1) < len - i; omega) (by (simp (disch := first | assumption | exact Ne.symm (by assumption) | omega) only [↓ZD, ZW, simprocAttr]; try trivial)) (by (try (simp (disch := first | assumption | exact Ne.symm (by assumption) | omega) only [↓ZD, ZW, simprocAttr]); try trivial))
 ·have hd : decide ((i : Int) < (len : Int)) = false := by simp; omega
  simp (disch := first | assumption | exact Ne.symm (by assumption) | omega) only [hd, hF1, ↓ZD, ZW, simprocAttr]
  have hT : s.length ≤ 9223372036854775807 := by omega
  refine CallE.made (parse_does (rdObj F []) (hg.mono le_up) (hMx.mono le_up) s hT) (by simp only [*, ↓ZD, ZW, RO, simprocAttr]) ?_
  generalize hR : parseS s = R at *
  rintro r G1 G2 ⟨cs1, rfl, c1, hr1⟩ up1 _ ⟨_, _⟩
  have hr1 := hr1.mono up1
  clear up1
  simp only [*, ↓ZD, ZW, RO, simprocAttr]
  refine NewB.n ?_
  rintro b2 ⟨_, _, _⟩ _
  simp only [*, ↓ZD, ZW, RO, simprocAttr]
  refine CallE.made (rparse_does (rdObj F G2) s hT) (by simp only [*, ↓ZD, ZW, RO, simprocAttr]) ?_
  rw [hR]
  rintro r G3 G4 ⟨cs2, rfl, c2, hr2⟩ up1 _ ⟨⟨_, _, _⟩, up2⟩
  have hr1 := hr1.mono up2
  have hr2 := hr2.mono up1
  clear up1 up2
  simp only [*, ↓ZD, ZW, RO, simprocAttr]
  refine NewB.n ?_
  rintro b3 ⟨_, _, _, _, _⟩ _
  simp only [*, beq_self_eq_true, ↓ZD, ZW, RO, simprocAttr]
  have up : ∀ b o, rdObj F G4 b = some o → rdObj F ((b3, .cells cs2.toArray 38 (0, 0)) :: (b2, .cells cs1.toArray 38 (0, 0)) :: (b1, .cells (strsV opsL).toArray 9 (0, 0)) :: G4) b = some o := fun b o h => rdObj_tl (Nb.all (by simp only [*, ↓ZD, ZW, RO, simprocAttr])) (rdObj_tl (Nb.all (by simp only [*, ↓ZD, ZW, RO, simprocAttr])) (rdObj_tl (Nb.all (by simp only [*, ↓ZD, ZW, RO, simprocAttr])) h))
  refine CallQ.of _ (same_pure _ (hr1.mono up) (hr2.mono up)) ?_
  simp only [*, ↓ZD, ZW, RO, simprocAttr]
end Go.Proofs.YtkbhinfpndnnfaaGreatDoor
