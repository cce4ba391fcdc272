/- Joined. -/
import Derived.Test.YtkbhinfpndnnfaaDoorJc
import Derived.Test.YtkbhinfpndnnfaaDoorEng17
set_option linter.unusedSectionVars false
namespace Go.Proofs.YtkbhinfpndnnfaaDoor
open Go Go.Eng
set_option maxHeartbeats 1000000
set_option linter.unusedSimpArgs false
set_option linter.unusedVariables false
set_option maxRecDepth 20000
theorem methods_pure (F : Base) (t : Str) : PureV Tryd.prog F 67 #[.string (bs t)] (.int .i64 (methI t)) := by
 refine pureV_of_svc mixed Tryd.func67 low67 (Nat.le_of_ble_eq_true rfl) (fun w0 => ?_)
 simp (disch := first | assumption | exact Ne.symm (by assumption) | omega) only [fu67, ↓ZD, ZW, simprocAttr]
 unfold methI
 simp only [beq_iff_eq, beq_eq_false_iff_ne]
 refine ⟨fun h => by rw [if_pos h], fun h => ?_⟩
 rw [if_neg h]
 refine ⟨fun h => by rw [if_pos h], fun h => ?_⟩
 rw [if_neg h]
 exact ⟨fun h => by rw [if_pos h], fun h => by rw [if_neg h]⟩
theorem lit_pure (F : Base) (v : LV) : PureV Tryd.prog F 68 #[.agg (v.cells (.slice none 0 0) (.slice none 0 0)).toArray] (.agg (xcells 1 v (.slice none 0 0) (.slice none 0 0) [] (.slice none 0 0) (.slice none 0 0)).toArray) := by
 refine pureV_of_svc mixed Tryd.func68 low68 (Nat.le_of_ble_eq_true rfl) (fun w0 => ?_)
 unfold LV.cells
 simp (disch := first | assumption | exact Ne.symm (by assumption) | omega) only [fu68, ↓ZD, ZW, simprocAttr]
 refine NewB.of fun b1 hb1 hF1 => ?_
 simp (disch := first | assumption | exact Ne.symm (by assumption) | omega) only [hF1, ↓ZD, ZW, simprocAttr]
 refine NewB.of fun b2 hb2 hF2 => ?_
 simp only [List.forall_mem_cons, List.not_mem_nil, false_implies, implies_true, and_true] at hb2
 simp (disch := first | assumption | exact Ne.symm (by assumption) | omega) only [hF1, hF2, ↓ZD, ZW, simprocAttr]
 rfl
theorem two_does (F : Base) (op : Int) (a c : List Value) (ha : a.length = 12) (hc : c.length = 12) : Does Tryd.prog F 59 #[.int .i64 op, .agg a.toArray, .agg c.toArray] [] (fun r H' => ∃ bk, r = .agg (xcells op lv0 (.slice none 0 0) (.slice none 0 0) [] (.slice (some ⟨bk, 0, none⟩) 2 2) (.slice none 0 0)).toArray ∧ H' = [(bk, .cells (a ++ c).toArray 30 (0, 0))]) := by
 refine Does.shr (K := fun r H' => ∃ bk, r = .agg (xcells op lv0 (.slice none 0 0) (.slice none 0 0) [] (.slice (some ⟨bk, 0, none⟩) 2 2) (.slice none 0 0)).toArray ∧ (bk, .cells (a ++ c).toArray 30 (0, 0)) ∈ H') ?_ fun r H' ⟨bk, h1, h2⟩ => ⟨[_], by simpa using h2, bk, h1, rfl⟩
 refine does_of_svc (args := [.int .i64 op, .agg a.toArray, .agg c.toArray]) mixed Tryd.func59 low59 (Nat.le_of_ble_eq_true rfl) (fun w0 hw0 => ?_)
 have t1 : ∀ r, (a ++ r).take 12 = a := fun r => List.take_left' ha
 have t0 : a.take 12 = a := List.take_of_length_le (Nat.le_of_eq ha)
 have t2 : c.take 12 = c := List.take_of_length_le (Nat.le_of_eq hc)
 simp (disch := first | assumption | exact Ne.symm (by assumption) | omega) only [fu59, ha, hc, t0, t2, ↓ZD, ZW, simprocAttr]
 refine NewB.of fun b1 hb1 hF1 => ?_
 simp (disch := first | assumption | exact Ne.symm (by assumption) | omega) only [hF1, ha, hc, t0, t2, ↓ZD, ZW, simprocAttr]
 refine NewB.of fun b2 hb2 hF2 => ?_
 simp only [List.forall_mem_cons, List.not_mem_nil, false_implies, implies_true, and_true] at hb2
 simp (disch := first | assumption | exact Ne.symm (by assumption) | omega) only [hF1, hF2, ha, hc, t0, t2, ↓ZD, ZW, simprocAttr]
 refine NewB.of fun b3 hb3 hF3 => ?_
 simp only [List.forall_mem_cons, List.not_mem_nil, false_implies, implies_true, and_true] at hb3
 obtain ⟨hb31, hb32⟩ := hb3
 have d2 : List.drop 24 (a ++ zx) = [] := List.drop_eq_nil_of_le (by simp [ha])
 simp (disch := first | assumption | exact Ne.symm (by assumption) | omega) only [hF1, hF2, hF3, ha, hc, t0, t1, t2, d2, ↓ZD, ZW, simprocAttr]
 refine NewB.of fun b4 hb4 hF4 => ?_
 simp only [List.forall_mem_cons, List.not_mem_nil, false_implies, implies_true, and_true] at hb4
 obtain ⟨hb41, hb42, hb43⟩ := hb4
 simp (disch := first | assumption | exact Ne.symm (by assumption) | omega) only [hF1, hF2, hF3, hF4, ha, hc, t0, t1, t2, ↓ZD, ZW, simprocAttr]
 exact ⟨b4, rfl, List.mem_cons_self⟩
section
variable {X : List Nat} {F : Base} {w0 : World} {H : Hp} {K : Value → Hp → Prop}
theorem CallE.two {op : Int} {a c : List Value} {x y : Ex'} {P : Prop} {Hl G : Hp} [tl : Tl H Hl G] (hop : I64 op) (ra : P → RepP (rdObj F G) a x) (rc : P → RepP (rdObj F G) c y) (ha : Ok12 a) (hc : Ok12 c) (sd : Dj Hl G ∧ Wk G)
  (hk : ∀ cs G', (P → RepP (rdObj F G') cs (twoX op x y)) → Ok12 cs ∧ Dj Hl G' ∧ (∀ b o, rdObj F G b = some o → rdObj F G' b = some o) ∧ Wk G' → K (.agg cs.toArray) (Hl ++ G')) :
  @CallE Tryd.prog X F w0 59 #[.int .i64 op, .agg a.toArray, .agg c.toArray] H ⟨K⟩ := by
 obtain ⟨dG, wG⟩ := sd
 obtain rfl := tl.eq
 refine CallG.shr (K := fun v H' => ∃ bk, (∀ e ∈ Hl ++ G, e.1 ≠ bk) ∧ F bk = none ∧ v = .agg (xcells op lv0 (.slice none 0 0) (.slice none 0 0) [] (.slice (some ⟨bk, 0, none⟩) 2 2) (.slice none 0 0)).toArray ∧ H' = (Hl ++ G) ++ [(bk, .cells (a ++ c).toArray 30 (0, 0))]) (CallE.news (two_does (rdObj F (Hl ++ G)) op a c ha.1 hc.1) ?_) ?_
 ·rintro v H' ⟨bk, h1, rfl⟩ h2 h3 _
  exact ⟨bk, fun e he => (h3 e he _ (List.mem_singleton.2 rfl)).symm, h2 _ (List.mem_singleton.2 rfl), h1, rfl⟩
 ·rintro v H' ⟨bk, h1, h2, rfl, rfl⟩
  have hn : Nb bk G := Nb.of fun e he => h1 e (List.mem_append_right _ he)
  refine ⟨Hl ++ ((bk, .cells (a ++ c).toArray 30 (0, 0)) :: G), ?_, hk _ _ (fun hP => rep_two h2 hn hop (ra hP) (rc hP)) ⟨⟨rfl, rfl, rfl, rfl⟩, Dj.iff.2 fun e he => all_cons (h1 e (List.mem_append_left _ he)).symm (Dj.iff.1 dG e he), fun _ _ => rdObj_tl hn.all, wG.cb hn⟩⟩
  intro e he
  simp only [List.mem_append, List.mem_cons, List.mem_singleton] at he ⊢
  rcases he with h | h | h <;> simp [h]
end
def outW (p : St) : St := ⟨p.p, IntKind.i64.wrap (p.deep - 1), p.e, p.bad⟩
theorem outW_agr {p s t : St} (h : Agr p s) (hg : Good t) (hd : s.e = 0 → t.e = 0 ∧ s.deep = t.deep + 1) : Agr (outW p) (out1 s) := by
 by_cases he : s.e = 0
 ·obtain rfl := h.ok he
  obtain ⟨h1, h2⟩ := hd he
  have := hg h1
  refine .inl ?_
  unfold outW out1
  congr 1
  rw [wrap_i64]; omega
 ·exact .inr ⟨he, h.e, h.bad⟩
theorem dfr_does (F : Base) {l : Value} {b b2 T : Nat} {fz : Nat × Nat} (hFb : F b = none) (h2 : F b2 = some (.cells #[.pointer (some ⟨b, 0, none⟩)] T fz)) (p : St) : DoesD Tryd.prog F 45 #[.pointer (some ⟨b2, 0, none⟩)] [(b, RdO l p)] (fun H' => H' = [(b, RdO l (outW p))]) := by
 refine doesD_of_svc (args := [.pointer (some ⟨b2, 0, none⟩)]) mixed Tryd.func45 low45 (Nat.le_of_ble_eq_true rfl) fun w0 hw0 => ?_
 simp (disch := first | assumption | exact Ne.symm (by assumption) | omega) only [fu45, hFb, h2, ↓ZD, ZW, simprocAttr]
 rfl
def sd30 : SD := SD.seq (SD.low (SC.reg [SO.mk (some 2) (S.box 50 (X.t 0)) none Kind.e, SO.mk (some 4) (S.alloc 30 zx) none Kind.e])) (SD.seq (SD.low (SC.seq (SC.reg [SO.mk (some 5) (S.ld 1 false (X.t 2)) none Kind.q, SO.mk (some 6) (S.nck (X.t 5)) none Kind.q, SO.mk (some 7) (S.add 2 (X.t 6)) none Kind.q, SO.mk (some 8) (S.ld 1 false (X.t 7)) none Kind.q, SO.mk (some 9) (S.bin BinOp.geq (X.t 8) (X.c (Value.int IntKind.i64 50))) none Kind.q]) (SC.cond (X.t 9) (SC.reg [SO.mk (some 10) (S.ld 1 false (X.t 2)) none Kind.q, SO.mk (some 11) (S.call 42 [X.t 10, X.c (Value.int IntKind.i64 11)]) none Kind.e]) SC.skip))) (SD.seq (SD.low (SC.seq (SC.reg [SO.mk (some 12) (S.ld 1 false (X.t 2)) none Kind.q, SO.mk (some 13) (S.nck (X.t 12)) none Kind.q, SO.mk (some 14) (S.add 3 (X.t 13)) none Kind.q, SO.mk (some 15) (S.ld 1 false (X.t 14)) none Kind.q, SO.mk (some 16) (S.bin BinOp.neq (X.t 15) (X.c (Value.int IntKind.i64 0))) none Kind.q]) (SC.cond (X.t 16) (SC.seq (SC.reg [SO.mk (some 17) (S.build zx []) none Kind.q, SO.mk none (S.store 12 (X.t 4) (X.t 17)) none Kind.e]) SC.ret) SC.skip))) (SD.seq (SD.low (SC.reg [SO.mk (some 18) (S.ld 1 false (X.t 2)) none Kind.q, SO.mk (some 19) (S.nck (X.t 18)) none Kind.q, SO.mk (some 20) (S.add 2 (X.t 19)) none Kind.q, SO.mk (some 21) (S.ld 1 false (X.t 20)) none Kind.q, SO.mk (some 22) (S.bin BinOp.add (X.t 21) (X.c (Value.int IntKind.i64 1))) none Kind.q, SO.mk (some 23) (S.nck (X.t 18)) none Kind.q, SO.mk (some 24) (S.add 2 (X.t 23)) none Kind.q, SO.mk none (S.store 1 (X.t 24) (X.t 22)) none Kind.e])) (SD.seq (SD.dfr [SO.mk (some 25) (S.mkF (Fn.func 45) [] [X.t 2]) none Kind.q] (X.t 25) []) (SD.low (SC.seq (SC.reg [SO.mk (some 26) (S.mv (X.t 1)) none Kind.q, SO.mk (some 27) (S.ld 1 false (X.t 2)) none Kind.q, SO.mk (some 28) (S.callV (X.t 26) [X.t 27]) none Kind.e, SO.mk none (S.store 12 (X.t 4) (X.t 28)) none Kind.e]) SC.ret))))))
theorem bod30 : Tryd.f30.body = some (Tryd.f30.body.getD .skip) := by kernel_rfl
theorem lowd30 : lowD Tryd.prog Tryd.f30.ntmps [] (Tryd.f30.body.getD .skip) = some sd30 := by kernel_rfl
theorem rvd30 : lowR Tryd.prog Tryd.f30.results.toList = some [RV.cell 4 12 true] := by kernel_rfl
theorem dfr_call : callable Tryd.prog 45 = true := by kernel_rfl
def nestR (ws : Ws) (R : St → Option (Ex' × St)) (s : St) : Option (Ex' × St) := if s.e = 0 then (if 50 ≤ s.deep then some (nilX, failS ws s 11) else (R (inn s)).map fun y => (y.1, out1 y.2)) else some (nilX, s)
theorem nested_does (F : Base) {ws : Ws} {l : Value} (hW : HasW F ws l) {g : Nat} {R : St → Option (Ex' × St)} (hc : callable Tryd.prog g = true) (hR : Prs F l g R) (hgo : ∀ s y, R s = some y → Fwd 0 s y.2) {b : Nat} {p s s' : St} {x : Ex'} (hFb : F b = none) (hA : Agr p s) (hg : Good s) (h : nestR ws R s = some (x, s')) :
  Does Tryd.prog F 30 #[.pointer (some ⟨b, 0, none⟩), .func (.func g) #[] #[]] [(b, RdO l p)] (PPost F l b x s') := by
 refine Does.fin fun w1 hw1 => ?_
 refine callG_of_svd (args := [.pointer (some ⟨b, 0, none⟩), .func (.func g) #[] #[]]) mixed Tryd.func30 bod30 lowd30 rvd30 (Nat.le_of_ble_eq_true rfl) ?_
 simp only [sd30, svd]
 simp only [*, ↓ZD, ZW, RO, simprocAttr]
 refine NewB.n ?_
 rintro b2 ⟨_, _, _⟩ hF2
 simp only [*, ↓ZD, ZW, RO, simprocAttr]
 refine NewB.n ?_
 rintro b4 ⟨_, _, nR4, _, _⟩ hF4
 simp only [*, ↓ZD, ZW, RO, simprocAttr]
 unfold nestR at h
 refine ⟨fun hd => ?_, fun hd => ⟨fun he => ?_, fun he => ?_⟩⟩
 ·refine CallE.rdq (fail_q hW p 11) rfl (by simp only [*, ↓ZD, ZW, RO, simprocAttr]) ?_
  have hs : Agr (failS ws p 11) s' ∧ s'.e ≠ 0 := by
   by_cases he : s.e = 0
   ·obtain rfl := hA.ok he
    rw [if_pos he, if_pos (of_decide_eq_true hd)] at h
    simp only [Option.some.injEq, Prod.mk.injEq] at h
    obtain ⟨-, rfl⟩ := h
    exact ⟨.inl rfl, failS_e (by decide)⟩
   ·rw [if_neg he] at h
    simp only [Option.some.injEq, Prod.mk.injEq] at h
    obtain ⟨-, rfl⟩ := h
    exact ⟨by rw [failS_err (by rw [hA.e]; exact he)]; exact hA, he⟩
  have hne : ((failS ws p 11).e != 0) = true := by simpa using failS_e (by decide)
  simp only [*, finD, ↓ZD, ZW, RO, simprocAttr]
  exact PFin.m [] hs.1 rfl ⟨rfl, rfl, rfl, rfl⟩ (fun h => absurd h hs.2) trivial Wk.nil all_nil
 ·have he' : s.e ≠ 0 := by rw [← hA.e]; simpa using he
  rw [if_neg he'] at h
  simp only [Option.some.injEq, Prod.mk.injEq] at h
  obtain ⟨-, rfl⟩ := h
  simp only [*, finD, ↓ZD, ZW, RO, simprocAttr]
  exact PFin.m [] hA rfl ⟨rfl, rfl, rfl, rfl⟩ (fun h => absurd h he') trivial Wk.nil all_nil
 ·have he' : s.e = 0 := by rw [← hA.e]; simpa using he
  obtain rfl := hA.ok he'
  have hdp := hg he'
  rw [if_pos he', if_neg (of_decide_eq_false hd)] at h
  obtain ⟨⟨x1, s1⟩, h1, h2⟩ := map_some' h
  simp only [Prod.mk.injEq] at h2
  obtain ⟨rfl, rfl⟩ := h2
  have hd50 := of_decide_eq_false hd
  have hw : IntKind.i64.wrap (p.deep + 1) = p.deep + 1 := by rw [wrap_i64]; omega
  refine CallEF.par (p := inn p) hc hR Agr.rfl' (fun he => by show 0 ≤ p.deep + 1 ∧ p.deep + 1 ≤ 50; omega) h1 (by simp [inn, hw]) (by simp only [*, ↓ZD, ZW, RO, simprocAttr]) ?_
  rintro p1 cs1 G1 hA1 hr1 ⟨_, nG, ⟨_, _, _⟩, _, _⟩
  simp only [*, finD, ↓ZD, ZW, RO, simprocAttr]
  refine ⟨_, _, rfl, dfr_call, CallDG.frame (F1 := rdObj F [(b2, .cells #[.pointer (some ⟨b, 0, none⟩)] 50 (0, 0))]) (H0 := [(b, RdO l p1)]) (Hr := [(b4, .cells cs1.toArray 30 (0, 0)), (b2, .cells #[.pointer (some ⟨b, 0, none⟩)] 50 (0, 0))] ++ G1) (dfr_does _ (by simp [rdObj, lk, *]) (rdObj_hd hF2) p1) ?_ (by simp) ?_ ?_ ?_⟩
  ·exact fun _ _ h => rdObj_sub (by simp [lk, *]) h
  ·simp +contextual
  ·exact all_app (all_cons (by simpa using nR4) (all_cons (by simp [*]) all_nil)) fun e he e2 he2 => by rw [List.mem_singleton.1 he2]; exact (nG.all e he).symm
  ·rintro _ rfl - - -
   simp only [*, ↓ZD, ZW, RO, simprocAttr]
   refine ⟨outW p1, cs1, G1, outW_agr hA1 hg fun he => ?_, rfl, ‹_›, hr1, nG.all, ‹_›, by simp, by simp +contextual⟩
   obtain ⟨k1, _, k3⟩ := hgo _ _ h1 he
   exact ⟨k1, k3⟩
end Go.Proofs.YtkbhinfpndnnfaaDoor
namespace Go.Proofs.YtkbhinfpndnnfaaDoor
open Go Go.Eng
set_option maxHeartbeats 1000000
set_option linter.unusedSimpArgs false
set_option linter.unusedVariables false
set_option maxRecDepth 20000
theorem i64_lit {n : Int} (h : (decide (0 ≤ n) && decide (n ≤ 100)) = true) : I64 n := by
 rw [Bool.and_eq_true, decide_eq_true_eq, decide_eq_true_eq] at h; unfold I64; omega
theorem tk12 {cs : List Value} (h : Ok12 cs) (r : List Value) : (cs ++ r).take 12 = cs := List.take_left' h.1
theorem tk24 {cs : List Value} (h : Ok12 cs) (r : List Value) : (cs ++ r).take 24 = cs ++ r.take 12 := by
 rw [List.take_append, h.1, List.take_of_length_le (by have := h.1; omega)]
theorem dr12 {cs : List Value} (h : Ok12 cs) (r : List Value) : (cs ++ r).drop 12 = r := List.drop_left' h.1
theorem dr24 {cs : List Value} (h : Ok12 cs) (r : List Value) : (cs ++ r).drop 24 = r.drop 12 := by
 rw [show (24 : Nat) = 12 + 12 from rfl, ← List.drop_drop, dr12 h]
theorem dr36 {cs : List Value} (h : Ok12 cs) (r : List Value) : (cs ++ r).drop 36 = r.drop 24 := by
 rw [show (36 : Nat) = 12 + 24 from rfl, ← List.drop_drop, dr12 h]
theorem or_self {p s : St} (h : Agr p s) {ws : Ws} {t : Str} : isS ws p t = isS ws s t := h.is
theorem choice_prs (F : Base) {ws : Ws} {l : Value} (hW : HasW F ws l) (n : Nat) (h1 : Prs F l 16 (G ws n .expr)) (h2 : Prs F l 46 (G ws n (.lev 0))) : Prs F l 31 (choiceG ws (G ws n)) := by
 intro F' hFF b p s x s' hFb hA hg hR
 have hW := hW.mono hFF
 refine Does.fin (does_of_svc (args := [.pointer (some ⟨b, 0, none⟩)]) mixed Tryd.func31 low31 (Nat.le_of_ble_eq_true rfl) fun w0 hw0 => ?_)
 simp only [*, fu31, ↓ZD, ZW, RO, simprocAttr]
 refine NewB.n ?_
 rintro b1 ⟨_, _, _⟩ _
 simp only [*, ↓ZD, ZW, RO, simprocAttr]
 refine CallE.rdq (skip_q hW hA [105, 102]) rfl (by simp only [*, ↓ZD, ZW, RO, simprocAttr]) ?_
 unfold choiceG at hR
 cases hi : isS ws s [105, 102] with
 | false =>
  rw [hi, if_neg (by decide)] at hR
  simp only [*, ↓ZD, ZW, RO, simprocAttr]
  refine CallE.par (h2.mono hFF) hA hg hR rfl (by simp only [*, ↓ZD, ZW, RO, simprocAttr]) ?_
  rintro p1 cs1 G1 hA1 hr1 ⟨_, _, ⟨_, _⟩, hx1, _⟩
  simp only [*, ↓ZD, ZW, RO, simprocAttr]
  exact PFin.g hA1 rfl ‹_› hr1 ‹_› ‹_›
 | true =>
  rw [hi, if_pos rfl] at hR
  obtain ⟨⟨x1, s1⟩, hR1, hR⟩ := bind_some hR
  obtain ⟨⟨x2, s2⟩, hR2, hR⟩ := bind_some hR
  obtain ⟨⟨x3, s3⟩, hR3, hR⟩ := map_some' hR
  simp only [Prod.mk.injEq] at hR
  obtain ⟨rfl, rfl⟩ := hR
  simp only at hR2 hR3
  have hg1 := hg.adv.go hR1
  have hg2 := hg1.must.go hR2
  have h3a : s3.e = 0 → s2.e = 0 := fun he => must_e (G_goes ws n _ _ _ hR3 he).1
  have h2a : s3.e = 0 → s1.e = 0 := fun he => must_e (G_goes ws n _ _ _ hR2 (h3a he)).1
  simp only [*, ↓ZD, ZW, RO, simprocAttr]
  refine CallE.par (h1.mono hFF) hA.adv hg.adv hR1 rfl (by simp only [*, ↓ZD, ZW, RO, simprocAttr]) ?_
  rintro p1 cs1 G1 hA1 hr1 ⟨_, _, ⟨_, _⟩, hx1, _⟩
  simp only [*, ↓ZD, ZW, RO, simprocAttr]
  refine NewB.n ?_
  rintro b2 ⟨_, _, _, _, _⟩ _
  simp only [*, ↓ZD, ZW, RO, simprocAttr]
  refine CallE.rdq (must_q hW p1 [116, 104, 101, 110]) rfl (by simp only [*, ↓ZD, ZW, RO, simprocAttr]) ?_
  simp only [*, ↓ZD, ZW, RO, simprocAttr]
  refine CallE.par (h1.mono hFF) hA1.must hg1.must hR2 rfl (by simp only [*, ↓ZD, ZW, RO, simprocAttr]) ?_
  rintro p2 cs2 G2 hA2 hr2 ⟨_, _, ⟨_, _, _⟩, hx2, _⟩
  simp only [*, ↓ZD, ZW, RO, simprocAttr]
  refine NewB.n ?_
  rintro b3 ⟨_, _, _, _, _, _, _⟩ _
  simp only [*, ↓ZD, ZW, RO, simprocAttr]
  refine CallE.rdq (must_q hW p2 [101, 108, 115, 101]) rfl (by simp only [*, ↓ZD, ZW, RO, simprocAttr]) ?_
  simp only [*, ↓ZD, ZW, RO, simprocAttr]
  refine CallE.par (h1.mono hFF) hA2.must hg2.must hR3 rfl (by simp only [*, ↓ZD, ZW, RO, simprocAttr]) ?_
  rintro p3 cs3 G3 hA3 hr3 ⟨_, _, ⟨_, _, _, _⟩, hx3, _⟩
  simp only [*, ↓ZD, ZW, RO, simprocAttr]
  refine NewB.n ?_
  rintro b4 ⟨_, _, _, _, _, _, _, _, _⟩ _
  simp only [*, ↓ZD, ZW, RO, simprocAttr]
  have c1 := ‹Ok12 cs1›
  have c2 := ‹Ok12 cs2›
  have c3 := ‹Ok12 cs3›
  simp only [*, tk12 c1, tk24 c1, dr12 c1, dr24 c1, dr36 c1, tk12 c2, tk24 c2, dr12 c2, dr24 c2, dr36 c2, tk12 c3, tk24 c3, dr12 c3, dr24 c3, dr36 c3, List.append_assoc, ↓ZD, ZW, RO, simprocAttr]
  refine NewB.n ?_
  rintro b5 ⟨_, _, _, _, _, _, _, _, _, _, _⟩ _
  simp only [*, ↓ZD, ZW, RO, simprocAttr]
  exact PFin.m _ hA3 rfl ⟨rfl, rfl, rfl, rfl⟩ (fun he => rep_if (T := 30) ‹_› ‹_› (i64_lit rfl) (((hr1 (h2a he)).mono hx2).mono hx3) ((hr2 (h3a he)).mono hx3) (hr3 he)) (by simp only [*, ↓ZD, ZW, RO, simprocAttr]) (Wk.cb ‹_› ‹_›) (by simp +contextual)
theorem call_choice : callable Tryd.prog 31 = true := by kernel_rfl
theorem call_prefix : callable Tryd.prog 64 = true := by kernel_rfl
theorem prefix_prs (F : Base) {ws : Ws} {l : Value} (hW : HasW F ws l) (n : Nat) (h1 : Prs F l 63 (G ws n .unary)) (h2 : Prs F l 65 (G ws n .member)) : Prs F l 64 (prefG ws (G ws n)) := by
 intro F' hFF b p s x s' hFb hA hg hR
 have hW := hW.mono hFF
 refine Does.fin (does_of_svc (args := [.pointer (some ⟨b, 0, none⟩)]) mixed Tryd.func64 low64 (Nat.le_of_ble_eq_true rfl) fun w0 hw0 => ?_)
 simp only [*, fu64, ↓ZD, ZW, RO, simprocAttr]
 refine NewB.n ?_
 rintro b1 ⟨_, _, _⟩ _
 simp only [*, ↓ZD, ZW, RO, simprocAttr]
 unfold prefG at hR
 refine CallE.rdq (skip_q hW hA [33]) rfl (by simp only [*, ↓ZD, ZW, RO, simprocAttr]) ?_
 cases hi : isS ws s [33] with
 | true =>
  rw [hi, if_pos rfl] at hR
  obtain ⟨⟨x1, s1⟩, hR1, hR⟩ := map_some' hR
  simp only [Prod.mk.injEq] at hR
  obtain ⟨rfl, rfl⟩ := hR
  simp only [*, ↓ZD, ZW, RO, simprocAttr]
  refine CallE.par (h1.mono hFF) hA.adv hg.adv hR1 rfl (by simp only [*, ↓ZD, ZW, RO, simprocAttr]) ?_
  rintro p1 cs1 G1 hA1 hr1 ⟨_, _, ⟨_, _⟩, hx1, _⟩
  simp only [*, ↓ZD, ZW, RO, simprocAttr]
  refine NewB.n ?_
  rintro b2 ⟨_, _, _, _, _⟩ _
  simp only [*, ↓ZD, ZW, RO, simprocAttr]
  exact PFin.m _ hA1 rfl ⟨rfl, rfl, rfl, rfl⟩ (fun he => rep_one (T := 30) ‹_› ‹_› (i64_lit rfl) (hr1 he)) (by simp only [*, ↓ZD, ZW, RO, simprocAttr]) (Wk.cb ‹_› ‹_›) (by simp +contextual)
 | false =>
  rw [hi, if_neg (by decide)] at hR
  simp only [*, ↓ZD, ZW, RO, simprocAttr]
  clear hi
  refine CallE.rdq (skip_q hW hA [45]) rfl (by simp only [*, ↓ZD, ZW, RO, simprocAttr]) ?_
  cases hi : isS ws s [45] with
  | true =>
   rw [hi, if_pos rfl] at hR
   obtain ⟨⟨x1, s1⟩, hR1, hR⟩ := map_some' hR
   simp only [Prod.mk.injEq] at hR
   obtain ⟨rfl, rfl⟩ := hR
   simp only [*, ↓ZD, ZW, RO, simprocAttr]
   refine CallE.par (h1.mono hFF) hA.adv hg.adv hR1 rfl (by simp only [*, ↓ZD, ZW, RO, simprocAttr]) ?_
   rintro p1 cs1 G1 hA1 hr1 ⟨_, _, ⟨_, _⟩, hx1, _⟩
   simp only [*, ↓ZD, ZW, RO, simprocAttr]
   refine NewB.n ?_
   rintro b2 ⟨_, _, _, _, _⟩ _
   simp only [*, ↓ZD, ZW, RO, simprocAttr]
   exact PFin.m _ hA1 rfl ⟨rfl, rfl, rfl, rfl⟩ (fun he => rep_one (T := 30) ‹_› ‹_› (i64_lit rfl) (hr1 he)) (by simp only [*, ↓ZD, ZW, RO, simprocAttr]) (Wk.cb ‹_› ‹_›) (by simp +contextual)
  | false =>
   rw [hi, if_neg (by decide)] at hR
   simp only [*, ↓ZD, ZW, RO, simprocAttr]
   clear hi
   refine CallE.par (h2.mono hFF) hA hg hR rfl (by simp only [*, ↓ZD, ZW, RO, simprocAttr]) ?_
   rintro p1 cs1 G1 hA1 hr1 ⟨_, _, ⟨_, _⟩, hx1, _⟩
   simp only [*, ↓ZD, ZW, RO, simprocAttr]
   exact PFin.g hA1 rfl ‹_› hr1 ‹_› ‹_›
theorem expr_prs (F : Base) {ws : Ws} {l : Value} (hW : HasW F ws l) (R : St → Option (Ex' × St)) (hgo : ∀ s y, R s = some y → Fwd 0 s y.2) (h1 : Prs F l 31 R) : Prs F l 16 (nestR ws R) := by
 intro F' hFF b p s x s' hFb hA hg hR
 have hW := hW.mono hFF
 refine Does.fin (does_of_svc (args := [.pointer (some ⟨b, 0, none⟩)]) mixed Tryd.func16 low16 (Nat.le_of_ble_eq_true rfl) fun w0 hw0 => ?_)
 simp only [*, fu16, ↓ZD, ZW, RO, simprocAttr]
 refine NewB.n ?_
 rintro b1 ⟨_, _, _⟩ _
 simp only [*, ↓ZD, ZW, RO, simprocAttr]
 refine CallG.prs (fun F2 hF2 _ hb2 => nested_does F2 (hW.mono hF2) call_choice ((h1.mono hFF).mono hF2) hgo hb2 hA hg hR) rfl (by simp only [*, ↓ZD, ZW, RO, simprocAttr]) ?_
 rintro p1 cs1 G1 hA1 hr1 ⟨_, _, ⟨_, _⟩, hx1, _⟩
 simp only [*, ↓ZD, ZW, RO, simprocAttr]
 exact PFin.g hA1 rfl ‹_› hr1 ‹_› ‹_›
theorem unary_prs (F : Base) {ws : Ws} {l : Value} (hW : HasW F ws l) (R : St → Option (Ex' × St)) (hgo : ∀ s y, R s = some y → Fwd 0 s y.2) (h1 : Prs F l 64 R) : Prs F l 63 (nestR ws R) := by
 intro F' hFF b p s x s' hFb hA hg hR
 have hW := hW.mono hFF
 refine Does.fin (does_of_svc (args := [.pointer (some ⟨b, 0, none⟩)]) mixed Tryd.func63 low63 (Nat.le_of_ble_eq_true rfl) fun w0 hw0 => ?_)
 simp only [*, fu63, ↓ZD, ZW, RO, simprocAttr]
 refine NewB.n ?_
 rintro b1 ⟨_, _, _⟩ _
 simp only [*, ↓ZD, ZW, RO, simprocAttr]
 refine CallG.prs (fun F2 hF2 _ hb2 => nested_does F2 (hW.mono hF2) call_prefix ((h1.mono hFF).mono hF2) hgo hb2 hA hg hR) rfl (by simp only [*, ↓ZD, ZW, RO, simprocAttr]) ?_
 rintro p1 cs1 G1 hA1 hr1 ⟨_, _, ⟨_, _⟩, hx1, _⟩
 simp only [*, ↓ZD, ZW, RO, simprocAttr]
 exact PFin.g hA1 rfl ‹_› hr1 ‹_› ‹_›
end Go.Proofs.YtkbhinfpndnnfaaDoor
namespace Go.Proofs.YtkbhinfpndnnfaaDoor
open Go Go.Eng
set_option maxHeartbeats 1000000
set_option linter.unusedSimpArgs false
set_option linter.unusedVariables false
set_option maxRecDepth 20000
def mops : Nat → List (Str × Int)
 | 0 => [([124, 124], 5)]
 | 1 => [([38, 38], 4)]
 | 2 => [([43], 11), ([45], 12)]
 | _ => [([42], 13)]
def mcells (l : List (Str × Int)) : List Value := l.flatMap fun m => [.string (bs m.1), .int .i64 m.2]
theorem mops_cases (k : Nat) : mops k = [([124, 124], 5)] ∨ mops k = [([38, 38], 4)] ∨ mops k = [([43], 11), ([45], 12)] ∨ mops k = [([42], 13)] := by
 match k with
 | 0 => exact .inl rfl
 | 1 => exact .inr (.inl rfl)
 | 2 => exact .inr (.inr (.inl rfl))
 | k + 3 => exact .inr (.inr (.inr rfl))
theorem op_none {ws : Ws} {k : Nat} {s : St} (h : idxI (fun m : Str × Int => isS ws s m.1) (mops k) < 0) : opAt ws k s = 0 := by
 match k with
 | 0 => simp only [mops, idxI] at h; simp only [opAt]; cases h0 : isS ws s [124, 124] <;> simp_all
 | 1 => simp only [mops, idxI] at h; simp only [opAt]; cases h0 : isS ws s [38, 38] <;> simp_all
 | 2 => simp only [mops, idxI] at h; simp only [opAt]; cases h0 : isS ws s [43] <;> cases h1 : isS ws s [45] <;> simp_all
 | k + 3 => simp only [mops, idxI] at h; simp only [opAt]; cases h0 : isS ws s [42] <;> simp_all
theorem idx1 {α : Type} {q : α → Bool} {a : α} {i : Nat} (h : idxI q [a] = i) : i = 0 ∧ q a = true := by
 simp only [idxI] at h
 cases hq : q a with
 | true => simp only [hq, if_true] at h; exact ⟨by omega, rfl⟩
 | false => simp [hq] at h
theorem idx2 {α : Type} {q : α → Bool} {a c : α} {i : Nat} (h : idxI q [a, c] = i) : (i = 0 ∧ q a = true) ∨ (i = 1 ∧ q a = false ∧ q c = true) := by
 simp only [idxI] at h
 cases hq : q a <;> cases hr : q c <;> simp [hq, hr] at h <;> first | exact .inl ⟨by omega, rfl⟩ | exact .inr ⟨by omega, rfl, rfl⟩ | omega
theorem op_some {ws : Ws} {k : Nat} {s : St} {i : Nat} (h : idxI (fun m : Str × Int => isS ws s m.1) (mops k) = i) : i < (mops k).length ∧ opAt ws k s = ((mops k).getD i ([], 0)).2 ∧ opAt ws k s ≠ 0 ∧ I64 (opAt ws k s) ∧ ∃ t, isS ws s t = true := by
 match k with
 | 0 => obtain ⟨rfl, hq⟩ := idx1 h; have e : opAt ws 0 s = 5 := if_pos hq; rw [e]; exact ⟨by decide, rfl, by decide, i64_lit rfl, _, hq⟩
 | 1 => obtain ⟨rfl, hq⟩ := idx1 h; have e : opAt ws 1 s = 4 := if_pos hq; rw [e]; exact ⟨by decide, rfl, by decide, i64_lit rfl, _, hq⟩
 | 2 =>
  rcases idx2 h with ⟨rfl, hq⟩ | ⟨rfl, hq, hr⟩
  ·have e : opAt ws 2 s = 11 := if_pos hq
   rw [e]; exact ⟨by decide, rfl, by decide, i64_lit rfl, _, hq⟩
  ·simp only at hq hr
   have e : opAt ws 2 s = 12 := by simp only [opAt, hq, hr]; rfl
   rw [e]; exact ⟨by decide, rfl, by decide, i64_lit rfl, _, hr⟩
 | k + 3 => obtain ⟨rfl, hq⟩ := idx1 h; have e : opAt ws (k + 3) s = 13 := if_pos hq; rw [e]; exact ⟨by simp [mops], rfl, by decide, i64_lit rfl, _, hq⟩
theorem mcells_len (l : List (Str × Int)) : (mcells l).length = l.length * 2 := by
 induction l with
 | nil => rfl
 | cons x l ih => unfold mcells at *; rw [List.flatMap_cons, List.length_append, ih]; simp; omega
theorem mcells_at {l : List (Str × Int)} {T : Nat} {fz : Nat × Nat} {i : Nat} (h : i < l.length) :
  cellsO (some (.cells (mcells l).toArray T fz)) (i * 2) 2 = some [.string (bs (l.getD i ([], 0)).1), .int .i64 (l.getD i ([], 0)).2] ∧ cellsO (some (.cells (mcells l).toArray T fz)) (i * 2 + 1) 1 = some [.int .i64 (l.getD i ([], 0)).2] := by
 have key : (mcells l).drop (i * 2) = .string (bs (l.getD i ([], 0)).1) :: .int .i64 (l.getD i ([], 0)).2 :: mcells (l.drop (i + 1)) := by
  induction l generalizing i with
  | nil => simp at h
  | cons x l ih =>
   cases i with
   | zero => rfl
   | succ i =>
    have := ih (i := i) (by simpa using h)
    rw [show (i + 1) * 2 = 2 + i * 2 by omega, ← List.drop_drop]
    exact this
 have hl := mcells_len l
 refine ⟨?_, ?_⟩
 ·rw [cellsO_of, if_pos (by omega), key]; rfl
 ·rw [cellsO_of, if_pos (by omega), ← List.drop_drop, key]; rfl
theorem idxM_pure (F : Base) {bm T : Nat} {fz : Nat × Nat} {l : List (Str × Int)} {q : Str × Int → Bool} {fv : Value} (hM : F bm = some (.cells (mcells l).toArray T fz)) (hl : l.length ≤ 100) (hq : ∀ m : Str × Int, PureF Tryd.prog F fv [.agg #[.string (bs m.1), .int .i64 m.2]] (.bool (q m))) :
  PureV Tryd.prog F 57 #[.slice (some ⟨bm, 0, none⟩) l.length l.length, fv] (.int .i64 (idxI q l)) := by
 have hr := idxI_isFst q ([], 0) l
 revert hr
 generalize idxI q l = r
 intro hr
 refine pureV_of_svc mixed Tryd.func57 low57 (Nat.le_of_ble_eq_true rfl) (fun w0 => ?_)
 simp (disch := first | assumption | exact Ne.symm (by assumption) | omega) only [fu57, ↓ZD, ZW, simprocAttr]
 refine LoopL.inv (α := Nat) (fun i => i ≤ l.length ∧ ∀ j, j < i → q (l.getD j ([], 0)) = false)
  (fun i => [(0, some (.slice (some ⟨bm, 0, none⟩) l.length l.length)), (1, some fv), (7, some (.int .i64 l.length)), (8, some (.int .i64 i))]) (fun i => []) (fun i => l.length - i) 0 ⟨Nat.zero_le _, fun j h => absurd h (by omega)⟩ (by (simp (disch := first | assumption | exact Ne.symm (by assumption) | omega) only [↓ZD, ZW, simprocAttr]; try trivial)) (by (try (simp (disch := first | assumption | exact Ne.symm (by assumption) | omega) only [↓ZD, ZW, simprocAttr]); try trivial)) ?_
 rintro i ⟨hi, ha⟩
 by_cases hlt : i < l.length
 ·have hd : decide ((i : Int) < (l.length : Int)) = true := by simp; omega
  have hld := (mcells_at (T := T) (fz := fz) hlt).1
  simp (disch := first | assumption | exact Ne.symm (by assumption) | omega) only [hd, hM, hld, Int.toNat_natCast, ↓ZD, ZW, simprocAttr]
  refine conj.of (by omega) ?_
  simp (disch := first | assumption | exact Ne.symm (by assumption) | omega) only [hd, hM, hld, Int.toNat_natCast, ↓ZD, ZW, simprocAttr]
  refine CallEF.pure (hq _) ?_
  simp (disch := first | assumption | exact Ne.symm (by assumption) | omega) only [hd, ↓ZD, ZW, simprocAttr]
  refine ⟨fun hpp => ?_, fun hpp => ?_⟩
  ·have : r = i := by
    rcases hr with ⟨k, h1, h2, h3, h4⟩ | ⟨h1, h2⟩
    ·have : k = i := by
      rcases Nat.lt_trichotomy k i with h | h | h
      ·have := ha k h; simp only at h3; rw [this] at h3; cases h3
      ·exact h
      ·have := h4 i h; simp only at this; rw [this] at hpp; cases hpp
     rw [h1, this]
    ·have := h2 i hlt; simp only at this; rw [this] at hpp; cases hpp
   rw [this]
  ·refine invK.on (i + 1) (⟨by omega, fun j hj => by
    by_cases e : j = i
    ·rw [e]; exact hpp
    ·exact ha j (by omega)⟩) (by omega) (by (simp (disch := first | assumption | exact Ne.symm (by assumption) | omega) only [↓ZD, ZW, simprocAttr]; try trivial)) (by (try (simp (disch := first | assumption | exact Ne.symm (by assumption) | omega) only [↓ZD, ZW, simprocAttr]); try trivial))
 ·have hd : decide ((i : Int) < (l.length : Int)) = false := by simp; omega
  have : r = -1 := by
   rcases hr with ⟨k, h1, h2, h3, h4⟩ | ⟨h1, h2⟩
   ·have := ha k (by omega); simp only at h3; rw [this] at h3; cases h3
   ·exact h1
  simp (disch := first | assumption | exact Ne.symm (by assumption) | omega) only [hd, this, ↓ZD, ZW, simprocAttr]
theorem row1_call : callable Tryd.prog 58 = true := by kernel_rfl
theorem row1_pure (F : Base) {ws : Ws} {l : Value} (hW : HasW F ws l) {b b1 T : Nat} {fz : Nat × Nat} {p : St} (hb : F b = some (RdO l p)) (h1 : F b1 = some (.cells #[.pointer (some ⟨b, 0, none⟩)] T fz)) (m : Str × Int) :
  PureF Tryd.prog F (.func (.func 58) #[] #[.pointer (some ⟨b1, 0, none⟩)]) [.agg #[.string (bs m.1), .int .i64 m.2]] (.bool (isS ws p m.1)) := by
 refine ⟨_, _, _, rfl, row1_call, ?_⟩
 refine pureV_of_svc (args := [.agg #[.string (bs m.1), .int .i64 m.2], .pointer (some ⟨b1, 0, none⟩)]) mixed Tryd.func58 low58 (Nat.le_of_ble_eq_true rfl) (fun w0 => ?_)
 simp (disch := first | assumption | exact Ne.symm (by assumption) | omega) only [fu58, h1, ↓ZD, ZW, simprocAttr]
 refine NewB.of fun b2 hb2 hF2 => ?_
 simp (disch := first | assumption | exact Ne.symm (by assumption) | omega) only [h1, hF2, ↓ZD, ZW, simprocAttr]
 refine CallE.pure (is_pure F hW hb m.1) ?_
 simp (disch := first | assumption | exact Ne.symm (by assumption) | omega) only [h1, hF2, ↓ZD, ZW, simprocAttr]
structure RowS where
 p : St
 s : St
 cs : List Value
 G : Hp
 x : Ex'
 m : Nat
structure RowI (ws : Ws) (F : Base) (b b1 b2 b3 k N : Nat) (xF : Ex') (sF : St) (y : RowS) : Prop where
 A : Agr y.p y.s
 g : Good y.s
 c : Ok12 y.cs
 r : y.s.e = 0 → RepP (rdObj F y.G) y.cs y.x
 n : Nb b y.G ∧ Nb b1 y.G ∧ Nb b2 y.G ∧ Nb b3 y.G
 w : Wk y.G
 m : y.m ≤ N
 R : G ws y.m (.rows k y.x) y.s = some (xF, sF)
theorem row_split {ws : Ws} {k N : Nat} {s s' : St} {x : Ex'} (h : G ws (N + 1) (.lev k) s = some (x, s')) : ∃ x1 s1, (s.e = 0 → True) ∧ G ws N (lowN k) s = some (x1, s1) ∧ G ws N (.rows k x1) s1 = some (x, s') := by
 rw [G_succ] at h
 split at h
 ·obtain ⟨⟨x1, s1⟩, h1, h2⟩ := bind_some h
  exact ⟨x1, s1, fun _ => trivial, h1, h2⟩
 ·rename_i he
  simp only [Option.some.injEq, Prod.mk.injEq] at h
  obtain ⟨rfl, rfl⟩ := h
  exact ⟨nilX, s, fun _ => trivial, G_at he, G_at he⟩
theorem row_does (F : Base) {ws : Ws} {l : Value} (hW : HasW F ws l) {g : Nat} (hc : callable Tryd.prog g = true) (k N : Nat) (h1 : ∀ n ≤ N, Prs F l g (G ws n (lowN k))) {bm T : Nat} {fz : Nat × Nat} (hM : F bm = some (.cells (mcells (mops k)).toArray T fz))
  {b : Nat} {p s s' : St} {x : Ex'} (hFb : F b = none) (hA : Agr p s) (hg : Good s) (hR : G ws (N + 1) (.lev k) s = some (x, s')) :
  Does Tryd.prog F 53 #[.pointer (some ⟨b, 0, none⟩), .func (.func g) #[] #[], .slice (some ⟨bm, 0, none⟩) (mops k).length (mops k).length] [(b, RdO l p)] (PPost F l b x s') := by
 refine Does.fin (does_of_svc (args := [.pointer (some ⟨b, 0, none⟩), .func (.func g) #[] #[], .slice (some ⟨bm, 0, none⟩) (mops k).length (mops k).length]) mixed Tryd.func53 low53 (Nat.le_of_ble_eq_true rfl) fun w0 hw0 => ?_)
 obtain ⟨x1, s1, e1, hR1, hR2⟩ := row_split hR
 clear hR
 simp only [*, fu53, ↓ZD, ZW, RO, simprocAttr]
 refine NewB.n ?_
 rintro b1 ⟨_, _, _⟩ _
 simp only [*, ↓ZD, ZW, RO, simprocAttr]
 refine NewB.n ?_
 rintro b2 ⟨_, _, _, _, _⟩ _
 simp only [*, ↓ZD, ZW, RO, simprocAttr]
 refine CallEF.par hc (h1 N (Nat.le_refl _)) hA hg hR1 rfl (by simp only [*, ↓ZD, ZW, RO, simprocAttr]) ?_
 rintro p1 cs1 G1 hA1 hr1 ⟨_, _, ⟨_, _, _⟩, hx1, _⟩
 simp only [*, ↓ZD, ZW, RO, simprocAttr]
 refine NewB.n ?_
 rintro b3 ⟨_, _, _, _, _, _, _⟩ _
 simp only [*, ↓ZD, ZW, RO, simprocAttr]
 refine LoopL.inv (α := RowS) (RowI ws F b b1 b2 b3 k N x s')
  (fun y => [(1, some (.func (.func g) #[] #[])), (2, some (.slice (some ⟨bm, 0, none⟩) (mops k).length (mops k).length)), (3, some (.pointer (some ⟨b1, 0, none⟩))), (6, some (.pointer (some ⟨b2, 0, none⟩))), (7, some (.pointer (some ⟨b3, 0, none⟩)))])
  (fun y => (b, RdO l y.p) :: (b3, .cells y.cs.toArray 30 (0, 0)) :: (b2, .cells zx.toArray 30 (0, 0)) :: (b1, .cells #[.pointer (some ⟨b, 0, none⟩)] 50 (0, 0)) :: y.G) (fun y => y.m) ⟨p1, s1, cs1, G1, x1, N⟩ ⟨hA1, hg.go hR1, ‹_›, hr1, ⟨‹_›, ‹_›, ‹_›, ‹_›⟩, ‹_›, Nat.le_refl _, hR2⟩ (by simp only [*, ↓ZD, ZW, RO, simprocAttr]) (by simp only [*, ↓ZD, ZW, RO, simprocAttr]) ?_
 clear hR1 hR2 hA hg hA1 hr1 hx1
 rintro ⟨p, s, cs9, G9, x1, m⟩ ⟨hA, hg, hc9, hr9, ⟨_, _, _, _⟩, hw9, hm, hR⟩
 dsimp only at hA hg hc9 hr9 hw9 hm hR ⊢
 by_cases he0 : s.e = 0
 ·obtain rfl := hA.ok he0
  have hd : (p.e == 0) = true := by simpa using he0
  simp only [*, ↓ZD, ZW, RO, simprocAttr]
  refine CallE.pureH (idxM_pure (q := fun m => isS ws p m.1) _ (le_up _ _ hM) (by rcases mops_cases k with h | h | h | h <;> rw [h] <;> decide) (row1_pure (b := b) (b1 := b1) (T := 50) (fz := (0, 0)) _ (hW.mono le_up) (by simp [rdObj, lk, *]) (by simp [rdObj, lk, *]))) ?_
  have hge := (idxI_ge (fun m : Str × Int => isS ws p m.1) (mops k)).1
  have hlt := (idxI_ge (fun m : Str × Int => isS ws p m.1) (mops k)).2
  by_cases hi : idxI (fun m : Str × Int => isS ws p m.1) (mops k) < 0
  ·have ho := op_none hi
   have hdi : decide (idxI (fun m : Str × Int => isS ws p m.1) (mops k) < 0) = true := decide_eq_true hi
   simp only [*, ↓ZD, ZW, RO, simprocAttr]
   cases m with
   | zero => exact absurd he0 (G_zero hR).1
   | succ m =>
    rw [G_succ, if_pos he0] at hR
    simp only [stepG, ho, if_true, Option.some.injEq, Prod.mk.injEq] at hR
    obtain ⟨rfl, rfl⟩ := hR
    exact PFin.g hA rfl ‹_› hr9 ‹_› ‹_›
  ·obtain ⟨i, hi2⟩ : ∃ i : Nat, idxI (fun m : Str × Int => isS ws p m.1) (mops k) = i := ⟨(idxI (fun m : Str × Int => isS ws p m.1) (mops k)).toNat, by omega⟩
   obtain ⟨hil, ho, ho0, hoi, tx, htx⟩ := op_some hi2
   have hrg := isS_range htx
   have hlen := hW.len
   rw [hi2]
   clear hi hge hlt
   have hdi : decide ((i : Int) < 0) = false := by simp
   have hdl := (mcells_at (T := T) (fz := fz) hil).2
   have hw1 : IntKind.i64.wrap (p.p + 1) = p.p + 1 := by rw [wrap_i64]; omega
   obtain ⟨m, rfl⟩ : ∃ m', m = m' + 1 := by
    cases m with
    | zero => exact absurd he0 (G_zero hR).1
    | succ m => exact ⟨m, rfl⟩
   rw [G_succ, if_pos he0] at hR
   simp only [stepG] at hR
   rw [if_neg ho0] at hR
   obtain ⟨⟨y, t⟩, hR3, hR4⟩ := bind_some hR
   rw [ho] at hR4 hoi
   clear hR ho ho0 hi2
   simp only [*, ↓ZD, ZW, RO, simprocAttr]
   refine TreeL.open ?_
   simp (disch := first | assumption | exact Ne.symm (by assumption) | omega) only [*, Int.toNat_natCast, ↓ZD, ZW, RO, simprocAttr]
   refine conj.of (by omega) ?_
   simp (disch := first | assumption | exact Ne.symm (by assumption) | omega) only [*, Int.toNat_natCast, ↓ZD, ZW, RO, simprocAttr]
   refine ⟨⟨?_, ?_⟩, ⟨?_, ?_⟩, ?_⟩
   iterate 5
    ·refine CallEF.par (p := adv p) hc (h1 m (by omega)) Agr.rfl' hg.adv hR3 (by simp [adv, *]) (by simp only [*, ↓ZD, ZW, RO, simprocAttr]) ?_
     rintro p10 cs10 G10 hA10 hr10 ⟨_, _, ⟨_, _, _, _⟩, hx10, _⟩
     simp only [*, Int.toNat_natCast, ↓ZD, ZW, RO, simprocAttr]
     refine CallE.two hoi (fun he => ((hr9 he0).mono hx10)) (fun he => (hr10 he)) ‹_› ‹_› (by simp only [*, ↓ZD, ZW, RO, simprocAttr]) ?_
     rintro cs11 G11 hr11 ⟨_, ⟨_, _, _, _, _⟩, hx11, _⟩
     simp only [*, Int.toNat_natCast, ↓ZD, ZW, RO, simprocAttr]
     refine invK.on ⟨p10, t, cs11, G11, twoX ((mops k).getD i ([], 0)).2 x1 y, m⟩ ⟨hA10, hg.adv.go hR3, ‹_›, hr11, ⟨‹_›, ‹_›, ‹_›, ‹_›⟩, ‹_›, (by show m ≤ N; omega), hR4⟩ (by show m < m + 1; omega) (by simp only [*, ↓ZD, ZW, RO, simprocAttr]) (by simp only [*, ↓ZD, ZW, RO, simprocAttr])
 ·have hd : (p.e == 0) = false := by rw [hA.e]; simpa using he0
  obtain ⟨rfl, rfl⟩ := G_err he0 _ _ hR
  simp only [*, ↓ZD, ZW, RO, simprocAttr]
  exact PFin.g hA rfl ‹_› (fun h => absurd h he0) ‹_› ‹_›
end Go.Proofs.YtkbhinfpndnnfaaDoor
namespace Go.Proofs.YtkbhinfpndnnfaaDoor
open Go Go.Eng
set_option maxHeartbeats 1000000
set_option linter.unusedSimpArgs false
set_option linter.unusedVariables false
set_option maxRecDepth 20000
theorem call_and : callable Tryd.prog 54 = true := by kernel_rfl
theorem call_rel : callable Tryd.prog 60 = true := by kernel_rfl
theorem call_product : callable Tryd.prog 62 = true := by kernel_rfl
theorem call_unary : callable Tryd.prog 63 = true := by kernel_rfl
theorem CallG.row {X : List Nat} {F : Base} {w0 : World} {l : Value} {g : Nat} {H : Hp} {K : Value → Hp → Prop} {b bm T : Nat} {p s : St} {x : Ex'} {s' : St} {ws : Ws} {Hl G : Hp} {o : Obj} {k N n m : Nat} [sp : Sp b H o ((bm, .cells (mcells (mops k)).toArray T (0, 0)) :: Hl) G] (hW : HasW F ws l) (hc : callable Tryd.prog g = true) (h1 : ∀ n ≤ N, Prs F l g (Go.Proofs.YtkbhinfpndnnfaaDoor.G ws n (lowN k)))
  (hA : Agr p s) (hg : Good s) (hR : Go.Proofs.YtkbhinfpndnnfaaDoor.G ws (N + 1) (.lev k) s = some (x, s')) (ho : o = RdO l p) (hn : n = (mops k).length) (hm : m = (mops k).length) (sd : Side F b ((bm, .cells (mcells (mops k)).toArray T (0, 0)) :: Hl) G) (sd2 : Nb bm G ∧ Nb bm Hl)
  (hk : ∀ p' cs G', Agr p' s' → (s'.e = 0 → RepP (rdObj F G') cs x) → Ok12 cs ∧ Nb b G' ∧ Dj Hl G' ∧ (∀ b o, rdObj F G b = some o → rdObj F G' b = some o) ∧ Wk G' → K (.agg cs.toArray) ((b, RdO l p') :: (Hl ++ G'))) :
  CallG Tryd.prog X F w0 53 #[.pointer (some ⟨b, 0, none⟩), .func (.func g) #[] #[], .slice (some ⟨bm, 0, none⟩) n m] H K := by
 obtain ⟨h2, ⟨h3a, h3b, h3⟩, h4, ⟨-, h5⟩, ⟨h6, h6'⟩, h7⟩ := sd
 subst ho hn hm
 have hw : Wk ((bm, .cells (mcells (mops k)).toArray T (0, 0)) :: G) := h7.cb sd2.1
 refine CallG.par (s' := s') (x := x) Hl ((bm, .cells (mcells (mops k)).toArray T (0, 0)) :: G) (fun F2 hE2 hb2 => row_does F2 (hW.mono fun b o h => hE2 b o (le_up b o h)) hc k N (fun n hn => (h1 n hn).mono fun b o h => hE2 b o (le_up b o h)) (hE2 _ _ (rdObj_hd h6)) hb2 hA hg hR) h2 sp.mem (fun e he => sp.sub e (List.mem_cons_of_mem _ he)) (fun e he => (List.mem_cons.1 he).elim (fun h => by rw [h]; exact sp.sub _ List.mem_cons_self) (sp.subG e)) h3.all (Nb.all (H := (bm, _) :: G) ⟨h3a, h3b, h4⟩)
  (fun e he e' he' => (List.mem_cons.1 he').elim (fun h => by rw [h]; exact sd2.2.all e he) fun h => (Dj.iff.1 h5 e he e' h).symm) (Nf.iff.1 h6') hw ?_
 intro p' cs G1 k1 k2 k3 k4 k5 k6 k7
 exact hk p' cs G1 k1 k3 ⟨k2, Nb.of k4, Dj.iff.2 fun e he e' he' => (k5 e he e' he').symm, fun b o h => k6 b o (rdObj_tl sd2.1.all h), k7⟩
theorem tf (c : Bool) : c = true ∨ c = false := by cases c <;> simp
theorem or_prs (F : Base) {ws : Ws} {l : Value} (hW : HasW F ws l) (N : Nat) (h1 : ∀ n ≤ N, Prs F l 54 (G ws n (lowN 0))) : Prs F l 46 (G ws (N + 1) (.lev 0)) := by
 intro F' hFF b p s x s' hFb hA hg hR
 have hW := hW.mono hFF
 refine Does.fin (does_of_svc (args := [.pointer (some ⟨b, 0, none⟩)]) mixed Tryd.func46 low46 (Nat.le_of_ble_eq_true rfl) fun w0 hw0 => ?_)
 simp only [*, fu46, ↓ZD, ZW, RO, simprocAttr]
 refine NewB.n ?_
 rintro b1 ⟨_, _, _⟩ _
 simp only [*, ↓ZD, ZW, RO, simprocAttr]
 refine NewB.n ?_
 rintro b2 ⟨_, _, _, _, _⟩ _
 simp only [*, ↓ZD, ZW, RO, simprocAttr]
 refine CallG.row (k := 0) (N := N) hW call_and (fun n hn => (h1 n hn).mono hFF) hA hg hR rfl rfl rfl (by simp only [*, ↓ZD, ZW, RO, simprocAttr]) (by simp only [*, ↓ZD, ZW, RO, simprocAttr]) ?_
 rintro p1 cs1 G1 hA1 hr1 ⟨_, _, ⟨_, _⟩, hx1, _⟩
 simp only [*, ↓ZD, ZW, RO, simprocAttr]
 exact PFin.g hA1 rfl ‹_› hr1 ‹_› ‹_›
theorem and_prs (F : Base) {ws : Ws} {l : Value} (hW : HasW F ws l) (N : Nat) (h1 : ∀ n ≤ N, Prs F l 60 (G ws n (lowN 1))) : Prs F l 54 (G ws (N + 1) (.lev 1)) := by
 intro F' hFF b p s x s' hFb hA hg hR
 have hW := hW.mono hFF
 refine Does.fin (does_of_svc (args := [.pointer (some ⟨b, 0, none⟩)]) mixed Tryd.func54 low54 (Nat.le_of_ble_eq_true rfl) fun w0 hw0 => ?_)
 simp only [*, fu54, ↓ZD, ZW, RO, simprocAttr]
 refine NewB.n ?_
 rintro b1 ⟨_, _, _⟩ _
 simp only [*, ↓ZD, ZW, RO, simprocAttr]
 refine NewB.n ?_
 rintro b2 ⟨_, _, _, _, _⟩ _
 simp only [*, ↓ZD, ZW, RO, simprocAttr]
 refine CallG.row (k := 1) (N := N) hW call_rel (fun n hn => (h1 n hn).mono hFF) hA hg hR rfl rfl rfl (by simp only [*, ↓ZD, ZW, RO, simprocAttr]) (by simp only [*, ↓ZD, ZW, RO, simprocAttr]) ?_
 rintro p1 cs1 G1 hA1 hr1 ⟨_, _, ⟨_, _⟩, hx1, _⟩
 simp only [*, ↓ZD, ZW, RO, simprocAttr]
 exact PFin.g hA1 rfl ‹_› hr1 ‹_› ‹_›
theorem sum_prs (F : Base) {ws : Ws} {l : Value} (hW : HasW F ws l) (N : Nat) (h1 : ∀ n ≤ N, Prs F l 62 (G ws n (lowN 2))) : Prs F l 61 (G ws (N + 1) (.lev 2)) := by
 intro F' hFF b p s x s' hFb hA hg hR
 have hW := hW.mono hFF
 refine Does.fin (does_of_svc (args := [.pointer (some ⟨b, 0, none⟩)]) mixed Tryd.func61 low61 (Nat.le_of_ble_eq_true rfl) fun w0 hw0 => ?_)
 simp only [*, fu61, ↓ZD, ZW, RO, simprocAttr]
 refine NewB.n ?_
 rintro b1 ⟨_, _, _⟩ _
 simp only [*, ↓ZD, ZW, RO, simprocAttr]
 refine NewB.n ?_
 rintro b2 ⟨_, _, _, _, _⟩ _
 simp only [*, ↓ZD, ZW, RO, simprocAttr]
 refine CallG.row (k := 2) (N := N) hW call_product (fun n hn => (h1 n hn).mono hFF) hA hg hR rfl rfl rfl (by simp only [*, ↓ZD, ZW, RO, simprocAttr]) (by simp only [*, ↓ZD, ZW, RO, simprocAttr]) ?_
 rintro p1 cs1 G1 hA1 hr1 ⟨_, _, ⟨_, _⟩, hx1, _⟩
 simp only [*, ↓ZD, ZW, RO, simprocAttr]
 exact PFin.g hA1 rfl ‹_› hr1 ‹_› ‹_›
theorem product_prs (F : Base) {ws : Ws} {l : Value} (hW : HasW F ws l) (N : Nat) (h1 : ∀ n ≤ N, Prs F l 63 (G ws n (lowN 3))) : Prs F l 62 (G ws (N + 1) (.lev 3)) := by
 intro F' hFF b p s x s' hFb hA hg hR
 have hW := hW.mono hFF
 refine Does.fin (does_of_svc (args := [.pointer (some ⟨b, 0, none⟩)]) mixed Tryd.func62 low62 (Nat.le_of_ble_eq_true rfl) fun w0 hw0 => ?_)
 simp only [*, fu62, ↓ZD, ZW, RO, simprocAttr]
 refine NewB.n ?_
 rintro b1 ⟨_, _, _⟩ _
 simp only [*, ↓ZD, ZW, RO, simprocAttr]
 refine NewB.n ?_
 rintro b2 ⟨_, _, _, _, _⟩ _
 simp only [*, ↓ZD, ZW, RO, simprocAttr]
 refine CallG.row (k := 3) (N := N) hW call_unary (fun n hn => (h1 n hn).mono hFF) hA hg hR rfl rfl rfl (by simp only [*, ↓ZD, ZW, RO, simprocAttr]) (by simp only [*, ↓ZD, ZW, RO, simprocAttr]) ?_
 rintro p1 cs1 G1 hA1 hr1 ⟨_, _, ⟨_, _⟩, hx1, _⟩
 simp only [*, ↓ZD, ZW, RO, simprocAttr]
 exact PFin.g hA1 rfl ‹_› hr1 ‹_› ‹_›
theorem rel_prs (F : Base) {ws : Ws} (hws : WsOk ws) {l : Value} (hW : HasW F ws l) (n : Nat) (h1 : Prs F l 61 (G ws n (.lev 2))) : Prs F l 60 (relG ws (G ws n)) := by
 intro F' hFF b p s x s' hFb hA hg hR
 have hW := hW.mono hFF
 refine Does.fin (does_of_svc (args := [.pointer (some ⟨b, 0, none⟩)]) mixed Tryd.func60 low60 (Nat.le_of_ble_eq_true rfl) fun w0 hw0 => ?_)
 simp only [*, fu60, ↓ZD, ZW, RO, simprocAttr]
 refine NewB.n ?_
 rintro b1 ⟨_, _, _⟩ _
 simp only [*, ↓ZD, ZW, RO, simprocAttr]
 unfold relG at hR
 obtain ⟨⟨x1, s1⟩, hR1, hR⟩ := bind_some hR
 simp only at hR
 have hg1 := hg.go hR1
 refine CallE.par (h1.mono hFF) hA hg hR1 rfl (by simp only [*, ↓ZD, ZW, RO, simprocAttr]) ?_
 rintro p1 cs1 G1 hA1 hr1 ⟨_, _, ⟨_, _⟩, hx1, _⟩
 simp only [*, ↓ZD, ZW, RO, simprocAttr]
 refine NewB.n ?_
 rintro b2 ⟨_, _, _, _, _⟩ _
 simp only [*, ↓ZD, ZW, RO, simprocAttr]
 refine CallE.rdq (skip_q hW hA1 [61, 61]) rfl (by simp only [*, ↓ZD, ZW, RO, simprocAttr]) ?_
 rcases tf (isS ws s1 [61, 61]) with hi | hi
 ·rw [hi, if_pos rfl] at hR
  simp only [*, ↓ZD, ZW, RO, simprocAttr]
  obtain ⟨⟨x2, s2⟩, hR2, hR⟩ := map_some' hR
  simp only [Prod.mk.injEq] at hR
  obtain ⟨rfl, rfl⟩ := hR
  have h21 : s2.e = 0 → s1.e = 0 := fun he => (G_goes ws n _ _ _ hR2 he).1
  refine TreeL.open ?_
  simp only [*, ↓ZD, ZW, RO, simprocAttr]
  refine ⟨?_, ?_⟩
  iterate 2
   ·refine CallE.par (h1.mono hFF) hA1.adv hg1.adv hR2 rfl (by simp only [*, ↓ZD, ZW, RO, simprocAttr]) ?_
    rintro p2 cs2 G2 hA2 hr2 ⟨_, _, ⟨_, _, _⟩, hx2, _⟩
    simp only [*, ↓ZD, ZW, RO, simprocAttr]
    refine CallE.two (i64_lit rfl) (fun he => ((hr1 (h21 he)).mono hx2)) (fun he => (hr2 he)) ‹_› ‹_› (by simp only [*, ↓ZD, ZW, RO, simprocAttr]) ?_
    rintro cs3 G3 hr3 ⟨_, ⟨_, _, _, _⟩, hx3, _⟩
    simp only [*, ↓ZD, ZW, RO, simprocAttr]
    exact PFin.g hA2 rfl ‹_› hr3 ‹_› ‹_›
 rw [hi, if_neg (by decide)] at hR
 simp only [*, ↓ZD, ZW, RO, simprocAttr]
 clear hi
 refine CallE.rdq (skip_q hW hA1 [33, 61]) rfl (by simp only [*, ↓ZD, ZW, RO, simprocAttr]) ?_
 rcases tf (isS ws s1 [33, 61]) with hi | hi
 ·rw [hi, if_pos rfl] at hR
  simp only [*, ↓ZD, ZW, RO, simprocAttr]
  obtain ⟨⟨x2, s2⟩, hR2, hR⟩ := map_some' hR
  simp only [Prod.mk.injEq] at hR
  obtain ⟨rfl, rfl⟩ := hR
  have h21 : s2.e = 0 → s1.e = 0 := fun he => (G_goes ws n _ _ _ hR2 he).1
  refine TreeL.open ?_
  simp only [*, ↓ZD, ZW, RO, simprocAttr]
  refine ⟨?_, ?_⟩
  iterate 2
   ·refine CallE.par (h1.mono hFF) hA1.adv hg1.adv hR2 rfl (by simp only [*, ↓ZD, ZW, RO, simprocAttr]) ?_
    rintro p2 cs2 G2 hA2 hr2 ⟨_, _, ⟨_, _, _⟩, hx2, _⟩
    simp only [*, ↓ZD, ZW, RO, simprocAttr]
    refine CallE.two (i64_lit rfl) (fun he => ((hr1 (h21 he)).mono hx2)) (fun he => (hr2 he)) ‹_› ‹_› (by simp only [*, ↓ZD, ZW, RO, simprocAttr]) ?_
    rintro cs3 G3 hr3 ⟨_, ⟨_, _, _, _⟩, hx3, _⟩
    simp only [*, ↓ZD, ZW, RO, simprocAttr]
    refine NewB.n ?_
    rintro b3 ⟨_, _, _, _, _, _, _⟩ _
    simp only [*, ↓ZD, ZW, RO, simprocAttr]
    exact PFin.m _ hA2 rfl ⟨rfl, rfl, rfl, rfl⟩ (fun he => rep_one (T := 30) ‹_› ‹_› (i64_lit rfl) (hr3 he)) (by simp only [*, ↓ZD, ZW, RO, simprocAttr]) (Wk.cb ‹_› ‹_›) (by simp +contextual)
 rw [hi, if_neg (by decide)] at hR
 simp only [*, ↓ZD, ZW, RO, simprocAttr]
 clear hi
 refine CallE.rdq (skip_q hW hA1 [60]) rfl (by simp only [*, ↓ZD, ZW, RO, simprocAttr]) ?_
 rcases tf (isS ws s1 [60]) with hi | hi
 ·rw [hi, if_pos rfl] at hR
  simp only [*, ↓ZD, ZW, RO, simprocAttr]
  obtain ⟨⟨x2, s2⟩, hR2, hR⟩ := map_some' hR
  simp only [Prod.mk.injEq] at hR
  obtain ⟨rfl, rfl⟩ := hR
  have h21 : s2.e = 0 → s1.e = 0 := fun he => (G_goes ws n _ _ _ hR2 he).1
  refine TreeL.open ?_
  simp only [*, ↓ZD, ZW, RO, simprocAttr]
  refine ⟨?_, ?_⟩
  iterate 2
   ·refine CallE.par (h1.mono hFF) hA1.adv hg1.adv hR2 rfl (by simp only [*, ↓ZD, ZW, RO, simprocAttr]) ?_
    rintro p2 cs2 G2 hA2 hr2 ⟨_, _, ⟨_, _, _⟩, hx2, _⟩
    simp only [*, ↓ZD, ZW, RO, simprocAttr]
    refine CallE.two (i64_lit rfl) (fun he => ((hr1 (h21 he)).mono hx2)) (fun he => (hr2 he)) ‹_› ‹_› (by simp only [*, ↓ZD, ZW, RO, simprocAttr]) ?_
    rintro cs3 G3 hr3 ⟨_, ⟨_, _, _, _⟩, hx3, _⟩
    simp only [*, ↓ZD, ZW, RO, simprocAttr]
    exact PFin.g hA2 rfl ‹_› hr3 ‹_› ‹_›
 rw [hi, if_neg (by decide)] at hR
 simp only [*, ↓ZD, ZW, RO, simprocAttr]
 clear hi
 refine CallE.rdq (skip_q hW hA1 [60, 61]) rfl (by simp only [*, ↓ZD, ZW, RO, simprocAttr]) ?_
 rcases tf (isS ws s1 [60, 61]) with hi | hi
 ·rw [hi, if_pos rfl] at hR
  simp only [*, ↓ZD, ZW, RO, simprocAttr]
  obtain ⟨⟨x2, s2⟩, hR2, hR⟩ := map_some' hR
  simp only [Prod.mk.injEq] at hR
  obtain ⟨rfl, rfl⟩ := hR
  have h21 : s2.e = 0 → s1.e = 0 := fun he => (G_goes ws n _ _ _ hR2 he).1
  refine TreeL.open ?_
  simp only [*, ↓ZD, ZW, RO, simprocAttr]
  refine ⟨?_, ?_⟩
  iterate 2
   ·refine CallE.par (h1.mono hFF) hA1.adv hg1.adv hR2 rfl (by simp only [*, ↓ZD, ZW, RO, simprocAttr]) ?_
    rintro p2 cs2 G2 hA2 hr2 ⟨_, _, ⟨_, _, _⟩, hx2, _⟩
    simp only [*, ↓ZD, ZW, RO, simprocAttr]
    refine CallE.two (i64_lit rfl) (fun he => ((hr1 (h21 he)).mono hx2)) (fun he => (hr2 he)) ‹_› ‹_› (by simp only [*, ↓ZD, ZW, RO, simprocAttr]) ?_
    rintro cs3 G3 hr3 ⟨_, ⟨_, _, _, _⟩, hx3, _⟩
    simp only [*, ↓ZD, ZW, RO, simprocAttr]
    exact PFin.g hA2 rfl ‹_› hr3 ‹_› ‹_›
 rw [hi, if_neg (by decide)] at hR
 simp only [*, ↓ZD, ZW, RO, simprocAttr]
 clear hi
 refine CallE.rdq (skip_q hW hA1 [62]) rfl (by simp only [*, ↓ZD, ZW, RO, simprocAttr]) ?_
 rcases tf (isS ws s1 [62]) with hi | hi
 ·rw [hi, if_pos rfl] at hR
  simp only [*, ↓ZD, ZW, RO, simprocAttr]
  obtain ⟨⟨x2, s2⟩, hR2, hR⟩ := map_some' hR
  simp only [Prod.mk.injEq] at hR
  obtain ⟨rfl, rfl⟩ := hR
  have h21 : s2.e = 0 → s1.e = 0 := fun he => (G_goes ws n _ _ _ hR2 he).1
  refine TreeL.open ?_
  simp only [*, ↓ZD, ZW, RO, simprocAttr]
  refine ⟨?_, ?_⟩
  iterate 2
   ·refine CallE.par (h1.mono hFF) hA1.adv hg1.adv hR2 rfl (by simp only [*, ↓ZD, ZW, RO, simprocAttr]) ?_
    rintro p2 cs2 G2 hA2 hr2 ⟨_, _, ⟨_, _, _⟩, hx2, _⟩
    simp only [*, ↓ZD, ZW, RO, simprocAttr]
    refine CallE.two (i64_lit rfl) (fun he => (hr2 he)) (fun he => ((hr1 (h21 he)).mono hx2)) ‹_› ‹_› (by simp only [*, ↓ZD, ZW, RO, simprocAttr]) ?_
    rintro cs3 G3 hr3 ⟨_, ⟨_, _, _, _⟩, hx3, _⟩
    simp only [*, ↓ZD, ZW, RO, simprocAttr]
    exact PFin.g hA2 rfl ‹_› hr3 ‹_› ‹_›
 rw [hi, if_neg (by decide)] at hR
 simp only [*, ↓ZD, ZW, RO, simprocAttr]
 clear hi
 refine CallE.rdq (skip_q hW hA1 [62, 61]) rfl (by simp only [*, ↓ZD, ZW, RO, simprocAttr]) ?_
 rcases tf (isS ws s1 [62, 61]) with hi | hi
 ·rw [hi, if_pos rfl] at hR
  simp only [*, ↓ZD, ZW, RO, simprocAttr]
  obtain ⟨⟨x2, s2⟩, hR2, hR⟩ := map_some' hR
  simp only [Prod.mk.injEq] at hR
  obtain ⟨rfl, rfl⟩ := hR
  have h21 : s2.e = 0 → s1.e = 0 := fun he => (G_goes ws n _ _ _ hR2 he).1
  refine TreeL.open ?_
  simp only [*, ↓ZD, ZW, RO, simprocAttr]
  refine ⟨?_, ?_⟩
  iterate 2
   ·refine CallE.par (h1.mono hFF) hA1.adv hg1.adv hR2 rfl (by simp only [*, ↓ZD, ZW, RO, simprocAttr]) ?_
    rintro p2 cs2 G2 hA2 hr2 ⟨_, _, ⟨_, _, _⟩, hx2, _⟩
    simp only [*, ↓ZD, ZW, RO, simprocAttr]
    refine CallE.two (i64_lit rfl) (fun he => (hr2 he)) (fun he => ((hr1 (h21 he)).mono hx2)) ‹_› ‹_› (by simp only [*, ↓ZD, ZW, RO, simprocAttr]) ?_
    rintro cs3 G3 hr3 ⟨_, ⟨_, _, _, _⟩, hx3, _⟩
    simp only [*, ↓ZD, ZW, RO, simprocAttr]
    exact PFin.g hA2 rfl ‹_› hr3 ‹_› ‹_›
 rw [hi, if_neg (by decide)] at hR
 simp only [*, ↓ZD, ZW, RO, simprocAttr]
 clear hi
 refine CallE.rdq (skip_q hW hA1 [105, 110]) rfl (by simp only [*, ↓ZD, ZW, RO, simprocAttr]) ?_
 rcases tf (isS ws s1 [105, 110]) with hi | hi
 ·rw [hi, if_pos rfl] at hR
  simp only [*, ↓ZD, ZW, RO, simprocAttr]
  obtain ⟨⟨x2, s2⟩, hR2, hR⟩ := map_some' hR
  simp only [Prod.mk.injEq] at hR
  obtain ⟨rfl, rfl⟩ := hR
  have h21 : s2.e = 0 → s1.e = 0 := fun he => (G_goes ws n _ _ _ hR2 he).1
  refine TreeL.open ?_
  simp only [*, ↓ZD, ZW, RO, simprocAttr]
  refine ⟨?_, ?_⟩
  iterate 2
   ·refine CallE.par (h1.mono hFF) hA1.adv hg1.adv hR2 rfl (by simp only [*, ↓ZD, ZW, RO, simprocAttr]) ?_
    rintro p2 cs2 G2 hA2 hr2 ⟨_, _, ⟨_, _, _⟩, hx2, _⟩
    simp only [*, ↓ZD, ZW, RO, simprocAttr]
    refine CallE.two (i64_lit rfl) (fun he => ((hr1 (h21 he)).mono hx2)) (fun he => (hr2 he)) ‹_› ‹_› (by simp only [*, ↓ZD, ZW, RO, simprocAttr]) ?_
    rintro cs3 G3 hr3 ⟨_, ⟨_, _, _, _⟩, hx3, _⟩
    simp only [*, ↓ZD, ZW, RO, simprocAttr]
    exact PFin.g hA2 rfl ‹_› hr3 ‹_› ‹_›
 rw [hi, if_neg (by decide)] at hR
 simp only [*, ↓ZD, ZW, RO, simprocAttr]
 clear hi
 refine CallE.rdq (skip_q hW hA1 [104, 97, 115]) rfl (by simp only [*, ↓ZD, ZW, RO, simprocAttr]) ?_
 rcases tf (isS ws s1 [104, 97, 115]) with hi | hi
 ·rw [hi, if_pos rfl] at hR
  simp only [*, ↓ZD, ZW, RO, simprocAttr]
  simp only [Option.some.injEq, Prod.mk.injEq] at hR
  obtain ⟨rfl, rfl⟩ := hR
  refine TreeL.open ?_
  simp only [*, ↓ZD, ZW, RO, simprocAttr]
  refine ⟨?_, ?_, ?_⟩
  iterate 2
   ·refine CallE.rdq (take_q hW hA1.adv 1 (by decide)) rfl (by simp only [*, ↓ZD, ZW, RO, simprocAttr]) ?_
    simp only [*, ↓ZD, ZW, RO, simprocAttr]
    refine NewB.n ?_
    rintro b3 ⟨_, _, _, _, _, _, _⟩ _
    simp only [*, ↓ZD, ZW, RO, simprocAttr]
    exact PFin.m _ hA1.adv.take.2 rfl ⟨rfl, rfl, rfl, rfl⟩ (fun he => rep_one (T := 30) ‹_› ‹_› (i64_lit rfl) (hr1 (Fwd.take (s := adv s1) he).1)) (by simp only [*, ↓ZD, ZW, RO, simprocAttr]) (Wk.cb ‹_› ‹_›) (by simp +contextual)
  ·refine NewB.n ?_
   rintro b3 ⟨_, _, _, _, _, _, _⟩ _
   simp only [*, ↓ZD, ZW, RO, simprocAttr]
   refine CallE.rdq (take_q hW hA1.adv 1 (by decide)) rfl (by simp only [*, ↓ZD, ZW, RO, simprocAttr]) ?_
   simp only [*, ↓ZD, ZW, RO, simprocAttr]
   exact PFin.m _ hA1.adv.take.2 rfl ⟨rfl, rfl, rfl, rfl⟩ (fun he => rep_one (T := 30) ‹_› ‹_› (i64_lit rfl) (hr1 (Fwd.take (s := adv s1) he).1)) (by simp only [*, ↓ZD, ZW, RO, simprocAttr]) (Wk.cb ‹_› ‹_›) (by simp +contextual)
 rw [hi, if_neg (by decide)] at hR
 simp only [*, ↓ZD, ZW, RO, simprocAttr]
 clear hi
 refine CallE.rdq (skip_q hW hA1 [105, 115]) rfl (by simp only [*, ↓ZD, ZW, RO, simprocAttr]) ?_
 rcases tf (isS ws s1 [105, 115]) with hi | hi
 ·rw [hi, if_pos rfl] at hR
  simp only [*, ↓ZD, ZW, RO, simprocAttr]
  simp only [Option.some.injEq, Prod.mk.injEq] at hR
  obtain ⟨rfl, rfl⟩ := hR
  refine TreeL.open ?_
  simp only [*, ↓ZD, ZW, RO, simprocAttr]
  refine ⟨?_, ?_, ?_⟩
  iterate 2
   ·refine CallE.rdq (path_q hws hW hA1.adv) rfl (by simp only [*, ↓ZD, ZW, RO, simprocAttr]) ?_
    simp only [*, ↓ZD, ZW, RO, simprocAttr]
    refine NewB.n ?_
    rintro b3 ⟨_, _, _, _, _, _, _⟩ _
    simp only [*, ↓ZD, ZW, RO, simprocAttr]
    exact PFin.m _ hA1.adv.path.2 rfl ⟨rfl, rfl, rfl, rfl⟩ (fun he => rep_one (T := 30) ‹_› ‹_› (i64_lit rfl) (hr1 (Fwd.path (s := adv s1) he).1)) (by simp only [*, ↓ZD, ZW, RO, simprocAttr]) (Wk.cb ‹_› ‹_›) (by simp +contextual)
  ·refine NewB.n ?_
   rintro b3 ⟨_, _, _, _, _, _, _⟩ _
   simp only [*, ↓ZD, ZW, RO, simprocAttr]
   refine CallE.rdq (path_q hws hW hA1.adv) rfl (by simp only [*, ↓ZD, ZW, RO, simprocAttr]) ?_
   simp only [*, ↓ZD, ZW, RO, simprocAttr]
   exact PFin.m _ hA1.adv.path.2 rfl ⟨rfl, rfl, rfl, rfl⟩ (fun he => rep_one (T := 30) ‹_› ‹_› (i64_lit rfl) (hr1 (Fwd.path (s := adv s1) he).1)) (by simp only [*, ↓ZD, ZW, RO, simprocAttr]) (Wk.cb ‹_› ‹_›) (by simp +contextual)
 rw [hi, if_neg (by decide)] at hR
 simp only [*, ↓ZD, ZW, RO, simprocAttr]
 clear hi
 simp only [Option.some.injEq, Prod.mk.injEq] at hR
 obtain ⟨rfl, rfl⟩ := hR
 exact PFin.g hA1 rfl ‹_› hr1 ‹_› ‹_›
end Go.Proofs.YtkbhinfpndnnfaaDoor
namespace Go.Proofs.YtkbhinfpndnnfaaDoor
open Go Go.Eng
set_option maxHeartbeats 1000000
set_option linter.unusedSimpArgs false
set_option linter.unusedVariables false
set_option maxRecDepth 20000
structure MemI (ws : Ws) (F : Base) (b b1 b2 N : Nat) (xF : Ex') (sF : St) (y : RowS) : Prop where
 A : Agr y.p y.s
 g : Good y.s
 c : Ok12 y.cs
 r : y.s.e = 0 → RepP (rdObj F y.G) y.cs y.x
 n : Nb b y.G ∧ Nb b1 y.G ∧ Nb b2 y.G
 w : Wk y.G
 m : y.m ≤ N
 R : G ws y.m (.mems y.x) y.s = some (xF, sF)
theorem mem_split {ws : Ws} {N : Nat} {s s' : St} {x : Ex'} (h : G ws (N + 1) .member s = some (x, s')) : ∃ x1 s1, G ws N .prim s = some (x1, s1) ∧ G ws N (.mems x1) s1 = some (x, s') := by
 rw [G_succ] at h
 split at h
 ·obtain ⟨⟨x1, s1⟩, h1, h2⟩ := bind_some h
  exact ⟨x1, s1, h1, h2⟩
 ·rename_i he
  simp only [Option.some.injEq, Prod.mk.injEq] at h
  obtain ⟨rfl, rfl⟩ := h
  exact ⟨nilX, s, G_at he, G_at he⟩
theorem methI_lit (t : Str) : I64 (methI t) := by
 unfold methI
 repeat' split
 all_goals exact i64_lit rfl
theorem member_prs (F : Base) {ws : Ws} {l : Value} (hW : HasW F ws l) (N : Nat) (h1 : ∀ n ≤ N, Prs F l 66 (G ws n .prim)) (h2 : ∀ n ≤ N, Prs F l 16 (G ws n .expr)) : Prs F l 65 (G ws (N + 1) .member) := by
 intro F' hFF b p s x s' hFb hA hg hR
 have hW := hW.mono hFF
 refine Does.fin (does_of_svc (args := [.pointer (some ⟨b, 0, none⟩)]) mixed Tryd.func65 low65 (Nat.le_of_ble_eq_true rfl) fun w0 hw0 => ?_)
 simp only [*, fu65, ↓ZD, ZW, RO, simprocAttr]
 obtain ⟨x1, s1, hR1, hR2⟩ := mem_split hR
 refine NewB.n ?_
 rintro b1 ⟨_, _, _⟩ _
 simp only [*, ↓ZD, ZW, RO, simprocAttr]
 refine CallE.par ((h1 N (Nat.le_refl _)).mono hFF) hA hg hR1 rfl (by simp only [*, ↓ZD, ZW, RO, simprocAttr]) ?_
 rintro p1 cs1 G1 hA1 hr1 ⟨_, _, ⟨_, _⟩, hx1, _⟩
 simp only [*, ↓ZD, ZW, RO, simprocAttr]
 refine NewB.n ?_
 rintro b2 ⟨_, _, _, _, _⟩ _
 simp only [*, ↓ZD, ZW, RO, simprocAttr]
 refine LoopL.inv (α := RowS) (MemI ws F' b b1 b2 N x s')
  (fun y => [(0, some (.pointer (some ⟨b, 0, none⟩))), (2, some (.pointer (some ⟨b1, 0, none⟩))), (3, some (.pointer (some ⟨b2, 0, none⟩)))])
  (fun y => (b, RdO l y.p) :: (b2, .cells y.cs.toArray 30 (0, 0)) :: (b1, .cells zx.toArray 30 (0, 0)) :: y.G) (fun y => y.m) ⟨p1, s1, cs1, G1, x1, N⟩ ⟨hA1, hg.go hR1, ‹_›, hr1, ⟨‹_›, ‹_›, ‹_›⟩, ‹_›, Nat.le_refl _, hR2⟩ (by simp only [*, ↓ZD, ZW, RO, simprocAttr]) (by simp only [*, ↓ZD, ZW, RO, simprocAttr]) ?_
 clear hR hR1 hR2 hA hg hA1 hr1 hx1
 rintro ⟨p, s, cs9, G9, x1, m⟩ ⟨hA, hg, hc9, hr9, ⟨_, _, _⟩, hw9, hm, hR⟩
 dsimp only at hA hg hc9 hr9 hw9 hm hR ⊢
 have hlen := hW.len
 by_cases he0 : s.e = 0
 ·obtain rfl := hA.ok he0
  have hd : (p.e == 0) = true := by simpa using he0
  obtain ⟨m, rfl⟩ : ∃ m', m = m' + 1 := by
   cases m with
   | zero => exact absurd he0 (G_zero hR).1
   | succ m => exact ⟨m, rfl⟩
  rw [G_succ, if_pos he0] at hR
  simp only [stepG] at hR
  unfold memsG at hR
  simp only [*, ↓ZD, ZW, RO, simprocAttr]
  refine CallE.rdq (skip_q hW Agr.rfl' [91]) rfl (by simp only [*, ↓ZD, ZW, RO, simprocAttr]) ?_
  rcases tf (isS ws p [91]) with hi | hi
  ·rw [hi, if_pos rfl] at hR
   simp only [*, ↓ZD, ZW, RO, simprocAttr]
   refine TreeL.open ?_
   simp only [*, ↓ZD, ZW, RO, simprocAttr]
   refine ⟨?_, ?_, ?_⟩
   iterate 2
    ·refine CallE.rdq (take_q hW Agr.rfl' 3 (by decide)) rfl (by simp only [*, ↓ZD, ZW, RO, simprocAttr]) ?_
     simp only [*, ↓ZD, ZW, RO, simprocAttr]
     refine NewB.n ?_
     rintro b3 ⟨_, _, _, _, _, _, _⟩ _
     simp only [*, ↓ZD, ZW, RO, simprocAttr]
     refine CallE.rdq (must_q hW (takeS ws (adv p) 3).2 [93]) rfl (by simp only [*, ↓ZD, ZW, RO, simprocAttr]) ?_
     simp only [*, ↓ZD, ZW, RO, simprocAttr]
     refine invK.on ⟨(mustS ws (takeS ws (adv p) 3).2 [93]), (mustS ws (takeS ws (adv p) 3).2 [93]), xcells 18 lv0 (.slice none 0 0) (.slice none 0 0) (takeS ws (adv p) 3).1 (.slice (some ⟨b3, 0, none⟩) 1 1) (.slice none 0 0), (b3, .cells cs9.toArray 30 (0, 0)) :: G9, oneX' 18 (takeS ws (adv p) 3).1 x1, m⟩ ⟨Agr.rfl', hg.adv.take.must, ⟨rfl, rfl, rfl, rfl⟩, fun he => rep_one ‹_› ‹_› (i64_lit rfl) (hr9 he0), by simp only [*, ↓ZD, ZW, RO, simprocAttr], Wk.cb hw9 ‹_›, (by show m ≤ N; omega), hR⟩ (by show m < m + 1; omega) (by simp only [*, ↓ZD, ZW, RO, simprocAttr]) (by unfold xcells lv0; simp only [*, ↓ZD, ZW, RO, simprocAttr])
   ·refine NewB.n ?_
    rintro b3 ⟨_, _, _, _, _, _, _⟩ _
    simp only [*, ↓ZD, ZW, RO, simprocAttr]
    refine CallE.rdq (take_q hW Agr.rfl' 3 (by decide)) rfl (by simp only [*, ↓ZD, ZW, RO, simprocAttr]) ?_
    simp only [*, ↓ZD, ZW, RO, simprocAttr]
    refine CallE.rdq (must_q hW (takeS ws (adv p) 3).2 [93]) rfl (by simp only [*, ↓ZD, ZW, RO, simprocAttr]) ?_
    simp only [*, ↓ZD, ZW, RO, simprocAttr]
    refine invK.on ⟨(mustS ws (takeS ws (adv p) 3).2 [93]), (mustS ws (takeS ws (adv p) 3).2 [93]), xcells 18 lv0 (.slice none 0 0) (.slice none 0 0) (takeS ws (adv p) 3).1 (.slice (some ⟨b3, 0, none⟩) 1 1) (.slice none 0 0), (b3, .cells cs9.toArray 30 (0, 0)) :: G9, oneX' 18 (takeS ws (adv p) 3).1 x1, m⟩ ⟨Agr.rfl', hg.adv.take.must, ⟨rfl, rfl, rfl, rfl⟩, fun he => rep_one ‹_› ‹_› (i64_lit rfl) (hr9 he0), by simp only [*, ↓ZD, ZW, RO, simprocAttr], Wk.cb hw9 ‹_›, (by show m ≤ N; omega), hR⟩ (by show m < m + 1; omega) (by simp only [*, ↓ZD, ZW, RO, simprocAttr]) (by unfold xcells lv0; simp only [*, ↓ZD, ZW, RO, simprocAttr])
  rw [hi, if_neg (by decide)] at hR
  simp only [*, ↓ZD, ZW, RO, simprocAttr]
  clear hi
  refine CallE.rdq (skip_q hW Agr.rfl' [46]) rfl (by simp only [*, ↓ZD, ZW, RO, simprocAttr]) ?_
  rcases tf (isS ws p [46]) with hi | hi
  ·rw [hi, if_pos rfl] at hR
   simp only [*, ↓ZD, ZW, RO, simprocAttr]
   refine CallE.rdq (take_q hW (Agr.rfl' (s := adv p)) 1 (by decide)) rfl (by simp only [*, ↓ZD, ZW, RO, simprocAttr]) ?_
   simp only [*, ↓ZD, ZW, RO, simprocAttr]
   refine CallE.pure (methods_pure _ _) ?_
   simp only [*, ↓ZD, ZW, RO, simprocAttr]
   refine CallE.pureH (is_pure (p := (takeS ws (adv p) 1).2) _ (hW.mono le_up) (by simp [rdObj, lk, *]) [40]) ?_
   generalize hT : takeS ws (adv p) 1 = T at *
   have hgT : Good T.2 := by rw [← hT]; exact hg.adv.take
   simp only at hR
   rcases tf (isS ws T.2 [40]) with hj | hj
   ·rw [hj, if_neg (by decide)] at hR
    simp only [*, ↓ZD, ZW, RO, simprocAttr]
    by_cases hm0 : methI T.1 = 0
    ·have hmb : (methI T.1 == 0) = true := by simpa using hm0
     rw [if_pos hm0] at hR
     simp only [Option.some.injEq, Prod.mk.injEq] at hR
     obtain ⟨rfl, rfl⟩ := hR
     simp only [*, ↓ZD, ZW, RO, simprocAttr]
     refine CallE.rdq (fail_q hW T.2 10) rfl (by simp only [*, ↓ZD, ZW, RO, simprocAttr]) ?_
     simp only [*, ↓ZD, ZW, RO, simprocAttr]
     have hne : (failS ws T.2 10).e ≠ 0 := failS_e (by decide)
     refine invK.on ⟨(failS ws T.2 10), (failS ws T.2 10), cs9, G9, nilX, m⟩ ⟨Agr.rfl', (hgT.fail (by decide)), hc9, (fun h => absurd h hne), ⟨‹_›, ‹_›, ‹_›⟩, hw9, (by show m ≤ N; omega), (G_at hne)⟩ (by show m < m + 1; omega) (by simp only [*, ↓ZD, ZW, RO, simprocAttr]) (by simp only [*, ↓ZD, ZW, RO, simprocAttr])
    ·have hmb : (methI T.1 == 0) = false := by simpa using hm0
     rw [if_neg hm0] at hR
     obtain ⟨⟨y, t⟩, hR3, hR4⟩ := bind_some hR
     have hrg := isS_range hj
     have hw1 : IntKind.i64.wrap (T.2.p + 1) = T.2.p + 1 := by rw [wrap_i64]; omega
     clear hR hm0
     simp only [*, ↓ZD, ZW, RO, simprocAttr]
     refine TreeL.open ?_
     simp only [*, ↓ZD, ZW, RO, simprocAttr]
     refine ⟨?_, ?_⟩
     iterate 2
      ·refine CallE.par ((h2 m (by omega)).mono hFF) (Agr.rfl' (s := adv T.2)) hgT.adv hR3 (by simp [adv, *]) (by simp only [*, ↓ZD, ZW, RO, simprocAttr]) ?_
       rintro p10 cs10 G10 hA10 hr10 ⟨_, _, ⟨_, _, _⟩, hx10, _⟩
       simp only [*, ↓ZD, ZW, RO, simprocAttr]
       refine CallE.two (methI_lit _) (fun he => ((hr9 he0).mono hx10)) (fun he => (hr10 he)) ‹_› ‹_› (by simp only [*, ↓ZD, ZW, RO, simprocAttr]) ?_
       rintro cs11 G11 hr11 ⟨_, ⟨_, _, _, _⟩, hx11, _⟩
       simp only [*, ↓ZD, ZW, RO, simprocAttr]
       refine CallE.rdq (must_q hW p10 [41]) rfl (by simp only [*, ↓ZD, ZW, RO, simprocAttr]) ?_
       simp only [*, ↓ZD, ZW, RO, simprocAttr]
       refine invK.on ⟨(mustS ws p10 [41]), (mustS ws t [41]), cs11, G11, (twoX (methI T.1) x1 y), m⟩ ⟨hA10.must, (hgT.adv.go hR3).must, ‹_›, (fun h => hr11 (must_e h)), ⟨‹_›, ‹_›, ‹_›⟩, ‹_›, (by show m ≤ N; omega), hR4⟩ (by show m < m + 1; omega) (by simp only [*, ↓ZD, ZW, RO, simprocAttr]) (by simp only [*, ↓ZD, ZW, RO, simprocAttr])
   ·rw [hj, if_pos rfl] at hR
    simp only [*, ↓ZD, ZW, RO, simprocAttr]
    refine NewB.n ?_
    rintro b3 ⟨_, _, _, _, _, _, _⟩ _
    simp only [*, ↓ZD, ZW, RO, simprocAttr]
    refine invK.on ⟨T.2, T.2, xcells 18 lv0 (.slice none 0 0) (.slice none 0 0) T.1 (.slice (some ⟨b3, 0, none⟩) 1 1) (.slice none 0 0), (b3, .cells cs9.toArray 30 (0, 0)) :: G9, oneX' 18 T.1 x1, m⟩ ⟨Agr.rfl', hgT, ⟨rfl, rfl, rfl, rfl⟩, fun he => rep_one ‹_› ‹_› (i64_lit rfl) (hr9 he0), by simp only [*, ↓ZD, ZW, RO, simprocAttr], Wk.cb hw9 ‹_›, (by show m ≤ N; omega), hR⟩ (by show m < m + 1; omega) (by simp only [*, ↓ZD, ZW, RO, simprocAttr]) (by unfold xcells lv0; simp only [*, ↓ZD, ZW, RO, simprocAttr])
  ·rw [hi, if_neg (by decide)] at hR
   simp only [Option.some.injEq, Prod.mk.injEq] at hR
   obtain ⟨rfl, rfl⟩ := hR
   simp only [*, ↓ZD, ZW, RO, simprocAttr]
   exact PFin.g Agr.rfl' rfl ‹_› hr9 ‹_› ‹_›
 ·have hd : (p.e == 0) = false := by rw [hA.e]; simpa using he0
  obtain ⟨rfl, rfl⟩ := G_err he0 _ _ hR
  simp only [*, ↓ZD, ZW, RO, simprocAttr]
  exact PFin.g hA rfl ‹_› (fun h => absurd h he0) ‹_› ‹_›
end Go.Proofs.YtkbhinfpndnnfaaDoor
namespace Go.Proofs.YtkbhinfpndnnfaaDoor
open Go Go.Eng
set_option maxHeartbeats 1000000
set_option linter.unusedSimpArgs false
set_option linter.unusedVariables false
set_option maxRecDepth 20000
def varsL : Str := [124, 112, 114, 105, 110, 99, 105, 112, 97, 108, 124, 97, 99, 116, 105, 111, 110, 124, 114, 101, 115, 111, 117, 114, 99, 101, 124, 99, 111, 110, 116, 101, 120, 116, 124]
theorem pre_take {s r : Str} (h : ∀ c ∈ s, c ≠ 124) (hp : (s ++ [124]).isPrefixOf r = true) : s = r.takeWhile (· != 124) := by
 rw [List.isPrefixOf_iff_prefix] at hp
 obtain ⟨t, rfl⟩ := hp
 rw [List.append_assoc, List.takeWhile_append_of_pos fun c hc => by simpa using h c hc]
 simp [List.takeWhile_cons]
def pipeOk (i : Nat) : Bool := match varsL.drop i with
 | [] => true
 | c :: r => c != 124 || r.isEmpty || decide (r.takeWhile (· != 124) ∈ varL)
theorem pipe_all : (List.range 36).all pipeOk = true := by decide
theorem pipe_at {i : Nat} (hi : i < 36) {c : UInt8} {r : Str} (h : varsL.drop i = c :: r) (hc : c = 124) : r = [] ∨ r.takeWhile (· != 124) ∈ varL := by
 have := List.all_eq_true.1 pipe_all i (List.mem_range.2 hi)
 unfold pipeOk at this
 rw [h] at this
 simp only [hc, Bool.or_eq_true, List.isEmpty_iff, decide_eq_true_eq] at this
 rcases this with (h | h) | h
 ·simp at h
 ·exact .inl h
 ·exact .inr h
theorem has_var {s : Str} (h : ∀ c ∈ s, c ≠ 124) : Go.Lib.contains varsL ([124] ++ s ++ [124]) = decide (s ∈ varL) := by
 unfold Go.Lib.contains
 rw [Bool.eq_iff_iff, decide_eq_true_eq, decide_eq_true_eq]
 constructor
 ·intro h0
  rcases Go.Lib.index_spec varsL ([124] ++ s ++ [124]) with ⟨h1, -⟩ | ⟨i, h1, h2, h3, -⟩
  ·rw [h1] at h0; omega
  ·unfold Go.Lib.occAt at h3
   cases hd : varsL.drop i with
   | nil => rw [hd] at h3; simp [List.isPrefixOf] at h3
   | cons c r =>
    rw [hd, List.append_assoc, List.singleton_append, List.isPrefixOf_cons_cons] at h3
    rw [Bool.and_eq_true, beq_iff_eq] at h3
    have hs := pre_take h h3.2
    rcases pipe_at (i := i) (by have : varsL.length = 35 := rfl; omega) hd h3.1.symm with e | e
    ·rw [e] at h3; exact absurd h3.2 (by cases s <;> simp [List.isPrefixOf])
    ·rw [hs]; exact e
 ·intro h0
  simp only [varL, List.mem_cons, List.not_mem_nil, or_false] at h0
  rcases h0 with rfl | rfl | rfl | rfl <;> decide
theorem name_does (F : Base) (hMx : HasMx F) {ws : Ws} (hws : WsOk ws) {l : Value} (hW : HasW F ws l) {b : Nat} {p : St} (hFb : F b = none) (he : p.e = 0) (hk : wk ws p = 1) :
  Does Tryd.prog F 69 #[.pointer (some ⟨b, 0, none⟩), .string (bs (wtx ws p))] [(b, RdO l p)] (PPost F l b (nameG ws p).1 (nameG ws p).2) := by
 refine Does.fin (does_of_svc (args := [.pointer (some ⟨b, 0, none⟩), .string (bs (wtx ws p))]) mixed Tryd.func69 low69 (Nat.le_of_ble_eq_true rfl) fun w0 hw0 => ?_)
 have hr := in_range (ws := ws) (p := p.p) (by unfold wk at hk; omega)
 have hlen := hW.len
 obtain ⟨bw, cap, sp, T, fz, rfl, hFw, hcc, hmm, hne⟩ := id hW
 obtain ⟨j, hj⟩ : ∃ j : Nat, p.p = j := ⟨p.p.toNat, by omega⟩
 have htl : (wtx ws p).length ≤ 65536 := (wdAt_ok hws p.p).1
 have h124 : ∀ c ∈ wtx ws p, c ≠ 124 := (wdAt_ok hws p.p).2.2 (by unfold wk at hk; omega)
 have hw1 : IntKind.i64.wrap (p.p + 1) = ((j + 1 : Nat) : Int) := by rw [wrap_i64]; omega
 have hn1 : ((j + 1 : Nat) : Int).toNat = j + 1 := Int.toNat_natCast _
 simp (disch := first | assumption | exact Ne.symm (by assumption) | omega) only [fu69, hFb, ↓ZD, ZW, simprocAttr]
 refine NewB.n ?_
 rintro b1 ⟨_, _, _⟩ hF1
 simp (disch := first | assumption | exact Ne.symm (by assumption) | omega) only [hFb, hF1, hw1, ↓ZD, ZW, simprocAttr]
 unfold nameG
 by_cases ht : wtx ws p = [116, 114, 117, 101] ∨ wtx ws p = [102, 97, 108, 115, 101]
 ·have hb1 : (wtx ws p == [116, 114, 117, 101] || wtx ws p == [102, 97, 108, 115, 101]) = true := by simpa using ht
  rw [if_pos ht]
  simp (disch := first | assumption | exact Ne.symm (by assumption) | omega) only [hFb, hF1, hw1, hb1, ↓ZD, ZW, simprocAttr]
  refine CallE.pure (lit_pure F ⟨1, wtx ws p == [116, 114, 117, 101], 0, [], [], []⟩) ?_
  simp (disch := first | assumption | exact Ne.symm (by assumption) | omega) only [hFb, hF1, hw1, xcells, ↓ZD, ZW, simprocAttr]
  exact PFin.m (cs := xcells 1 ⟨1, wtx ws p == [116, 114, 117, 101], 0, [], [], []⟩ (.slice none 0 0) (.slice none 0 0) [] (.slice none 0 0) (.slice none 0 0)) [] (Agr.rfl' (s := adv p)) (by simp [adv, hj]) ⟨rfl, rfl, rfl, rfl⟩ (fun _ => repP_leaf (i64_lit rfl) (i64_lit rfl) (i64_lit rfl)) trivial Wk.nil all_nil
 ·have hb1 : (wtx ws p == [116, 114, 117, 101] || wtx ws p == [102, 97, 108, 115, 101]) = false := by rw [Bool.eq_false_iff]; intro h; exact ht (by simpa using h)
  rw [if_neg ht]
  by_cases hlt : j + 1 < ws.length
  ·have hdl : decide (((j + 1 : Nat) : Int) < (ws.length : Int)) = true := by simp; omega
   have hld0 := wds_at0 (sp := sp) (T := T) (fz := fz) hlt
   have hld1 := wds_at1 (sp := sp) (T := T) (fz := fz) hlt
   have hwd : wdAt ws (p.p + 1) = ws.getD (j + 1) ((0, [], 0), 0) := by rw [show p.p + 1 = ((j + 1 : Nat) : Int) by omega, wdAt_in hlt]
   rw [hwd]
   simp (disch := first | assumption | exact Ne.symm (by assumption) | omega) only [hFb, hF1, hw1, hb1, hdl, hld0, hld1, hn1, hFw, ↓ZD, ZW, simprocAttr]
   refine conj.of (by omega) ?_
   simp (disch := first | assumption | exact Ne.symm (by assumption) | omega) only [hFb, hF1, hw1, hb1, hdl, hld0, hld1, hn1, hFw, ↓ZD, ZW, simprocAttr]
   refine conj.of (fun _ => by omega) ?_
   simp (disch := first | assumption | exact Ne.symm (by assumption) | omega) only [hFb, hF1, hw1, hb1, hdl, hld0, hld1, hn1, hFw, ↓ZD, ZW, simprocAttr]
   have hcd : ∀ w : Wd × Nat, ((((w.1.1 : Nat) : Int) == 5 && w.1.2.1 == [58, 58]) = true) = (((w.1.1 : Nat) : Int) = 5 ∧ w.1.2.1 = [58, 58]) := fun w => by rw [Bool.and_eq_true, beq_iff_eq, beq_iff_eq]
   refine ⟨fun h => ?_, fun h => ?_⟩
   ·rw [hcd] at h
    rw [if_pos h]
    refine CallE.rdq (uid_q hws hW p) rfl (by simp only [*, ↓ZD, ZW, RO, simprocAttr]) ?_
    simp (disch := first | assumption | exact Ne.symm (by assumption) | omega) only [hFb, hF1, hw1, ↓ZD, ZW, simprocAttr]
    refine CallE.pure (lit_pure F ⟨4, false, 0, [], (uidS ws p).1.1, (uidS ws p).1.2⟩) ?_
    simp (disch := first | assumption | exact Ne.symm (by assumption) | omega) only [hFb, hF1, hw1, xcells, ↓ZD, ZW, simprocAttr]
    exact PFin.m (cs := xcells 1 ⟨4, false, 0, [], (uidS ws p).1.1, (uidS ws p).1.2⟩ (.slice none 0 0) (.slice none 0 0) [] (.slice none 0 0) (.slice none 0 0)) [] Agr.rfl' rfl ⟨rfl, rfl, rfl, rfl⟩ (fun _ => repP_leaf (i64_lit rfl) (i64_lit rfl) (i64_lit rfl)) trivial Wk.nil all_nil
   ·rw [if_neg fun h2 => by rw [← hcd] at h2; rw [h2] at h; cases h]
    refine conj.of (by omega) ?_
    simp (disch := first | assumption | exact Ne.symm (by assumption) | omega) only [hFb, hF1, hw1, hb1, hdl, hld0, hld1, hn1, hFw, List.length_append, ↓ZD, ZW, simprocAttr]
    refine conj.of (by first | omega | (simp only [List.length_append, List.length_cons, List.length_nil]; omega)) ?_
    simp (disch := first | assumption | exact Ne.symm (by assumption) | omega) only [hFb, hF1, hw1, hb1, hdl, hld0, hld1, hn1, hFw, ↓ZD, ZW, simprocAttr]
    have hh := strHas_pure F hMx varsL ([124] ++ wtx ws p ++ [124]) (by decide)
    rw [has_var h124] at hh
    simp only [List.cons_append, List.nil_append, varsL] at hh
    refine CallE.pure hh ?_
    by_cases hv : wtx ws p ∈ varL
    ·have hvb : decide (wtx ws p ∈ varL) = true := decide_eq_true hv
     rw [if_pos hv]
     simp (disch := first | assumption | exact Ne.symm (by assumption) | omega) only [hFb, hF1, hw1, hb1, hdl, hld0, hld1, hn1, hFw, hvb, ↓ZD, ZW, simprocAttr]
     exact PFin.m (cs := xcells 2 lv0 (.slice none 0 0) (.slice none 0 0) (wtx ws p) (.slice none 0 0) (.slice none 0 0)) [] (Agr.rfl' (s := adv p)) (by simp [adv, hj]) ⟨rfl, rfl, rfl, rfl⟩ (fun _ => repP_leaf (i64_lit rfl) (i64_lit rfl) (i64_lit rfl)) trivial Wk.nil all_nil
    ·have hvb : decide (wtx ws p ∈ varL) = false := decide_eq_false hv
     rw [if_neg hv]
     simp (disch := first | assumption | exact Ne.symm (by assumption) | omega) only [hFb, hF1, hw1, hb1, hdl, hld0, hld1, hn1, hFw, hvb, ↓ZD, ZW, simprocAttr]
     refine CallE.rdq (fail_q hW p 10) rfl (by simp only [*, ↓ZD, ZW, RO, simprocAttr]) ?_
     simp (disch := first | assumption | exact Ne.symm (by assumption) | omega) only [hFb, hF1, hw1, hb1, hdl, hld0, hld1, hn1, hFw, ↓ZD, ZW, simprocAttr]
     exact PFin.m [] Agr.rfl' rfl ⟨rfl, rfl, rfl, rfl⟩ (fun h => absurd h (failS_e (by decide))) trivial Wk.nil all_nil
  ·have hdl : decide (((j + 1 : Nat) : Int) < (ws.length : Int)) = false := by simp; omega
   have hwd : ((wdAt ws (p.p + 1)).1.1 : Int) ≠ 5 := by rw [wdAt_out (by omega)]; show (0 : Int) ≠ 5; decide
   obtain ⟨o1, v1, e1⟩ := ldV_ex F [(b1, .cells zx.toArray 30 (0, 0)), (b, RdO (.slice (some ⟨bw, 0, none⟩) ws.length cap) p)] 1 (.pointer (some ⟨bw, (j + 1) * 4, none⟩))
   obtain ⟨o2, c2, e2⟩ := binq_eql_ex v1 (.int .i64 5)
   obtain ⟨o3, v3, e3⟩ := ldV_ex F [(b1, .cells zx.toArray 30 (0, 0)), (b, RdO (.slice (some ⟨bw, 0, none⟩) ws.length cap) p)] 1 (.pointer (some ⟨bw, (j + 1) * 4 + 1, none⟩))
   obtain ⟨o4, c4, e4⟩ := binq_eql_ex v3 (.string (bs [58, 58]))
   simp (disch := first | assumption | exact Ne.symm (by assumption) | omega) only [hFb, hF1, hw1, hb1, hdl, ↓e1, e2, ↓e3, e4, hn1, ↓ZD, ZW, simprocAttr]
   rw [if_neg fun h => hwd h.1]
   refine conj.of (by omega) ?_
   simp (disch := first | assumption | exact Ne.symm (by assumption) | omega) only [hFb, hF1, hw1, hb1, hdl, ↓e1, e2, ↓e3, e4, hn1, List.length_append, ↓ZD, ZW, simprocAttr]
   refine conj.of (by first | omega | (simp only [List.length_append, List.length_cons, List.length_nil]; omega)) ?_
   simp (disch := first | assumption | exact Ne.symm (by assumption) | omega) only [hFb, hF1, hw1, hb1, hdl, ↓e1, e2, ↓e3, e4, hn1, ↓ZD, ZW, simprocAttr]
   have hh := strHas_pure F hMx varsL ([124] ++ wtx ws p ++ [124]) (by decide)
   rw [has_var h124] at hh
   simp only [List.cons_append, List.nil_append, varsL] at hh
   refine CallE.pure hh ?_
   by_cases hv : wtx ws p ∈ varL
   ·have hvb : decide (wtx ws p ∈ varL) = true := decide_eq_true hv
    rw [if_pos hv]
    simp (disch := first | assumption | exact Ne.symm (by assumption) | omega) only [hFb, hF1, hw1, hb1, hdl, ↓e1, e2, ↓e3, e4, hn1, hvb, ↓ZD, ZW, simprocAttr]
    exact PFin.m (cs := xcells 2 lv0 (.slice none 0 0) (.slice none 0 0) (wtx ws p) (.slice none 0 0) (.slice none 0 0)) [] (Agr.rfl' (s := adv p)) (by simp [adv, hj]) ⟨rfl, rfl, rfl, rfl⟩ (fun _ => repP_leaf (i64_lit rfl) (i64_lit rfl) (i64_lit rfl)) trivial Wk.nil all_nil
   ·have hvb : decide (wtx ws p ∈ varL) = false := decide_eq_false hv
    rw [if_neg hv]
    simp (disch := first | assumption | exact Ne.symm (by assumption) | omega) only [hFb, hF1, hw1, hb1, hdl, ↓e1, e2, ↓e3, e4, hn1, hvb, ↓ZD, ZW, simprocAttr]
    refine CallE.rdq (fail_q hW p 10) rfl (by simp only [*, ↓ZD, ZW, RO, simprocAttr]) ?_
    simp (disch := first | assumption | exact Ne.symm (by assumption) | omega) only [hFb, hF1, hw1, hb1, hdl, ↓e1, e2, ↓e3, e4, hn1, ↓ZD, ZW, simprocAttr]
    exact PFin.m [] Agr.rfl' rfl ⟨rfl, rfl, rfl, rfl⟩ (fun h => absurd h (failS_e (by decide))) trivial Wk.nil all_nil
end Go.Proofs.YtkbhinfpndnnfaaDoor
namespace Go.Proofs.YtkbhinfpndnnfaaDoor
open Go Go.Eng
set_option maxHeartbeats 1000000
set_option linter.unusedSimpArgs false
set_option linter.unusedVariables false
set_option maxRecDepth 20000
structure ItS where
 p : St
 s : St
 ks : List Ex'
 ns : List Str
 css : List (List Value)
 vk : Value
 vn : Value
 Hk : Hp
 Hn : Hp
 G : Hp
abbrev outO (op : Int) (vk vn : Value) : Obj := .cells #[Value.int IntKind.i64 op, Value.int IntKind.i64 0, Value.bool false, Value.int IntKind.i64 0, Value.string (bs []), Value.string (bs []), Value.string (bs []), Value.slice none 0 0, Value.slice none 0 0, Value.string (bs []), vk, vn] 30 (0, 0)
def itH (l : Value) (b bo : Nat) (op : Int) (y : ItS) : Hp := (b, RdO l y.p) :: (bo, outO op y.vk y.vn) :: (y.Hk ++ (y.Hn ++ y.G))
def Off (b bo : Nat) (H : Hp) : Prop := ∀ e ∈ H, e.1 ≠ b ∧ e.1 ≠ bo
structure ItOk (F : Base) (b bo : Nat) (y : ItS) : Prop where
 A : Agr y.p y.s
 g : Good y.s
 hk : OwnS F 12 30 y.css.flatten y.css.length y.vk y.Hk
 h12 : ∀ c ∈ y.css, c.length = 12
 hn : OwnS F 1 9 (y.ns.map fun s => Value.string (bs s)) y.ns.length y.vn y.Hn
 nl : ∀ s ∈ y.ns, s.length ≤ 65536
 r : y.s.e = 0 → y.css.length = y.ks.length ∧ ∀ (i : Nat) (c : List Value) (t : Ex'), y.css[i]? = some c → y.ks[i]? = some t → RepP (rdObj F y.G) c t
 ok : Off b bo y.Hk
 on : Off b bo y.Hn
 og : Off b bo y.G
 kn : ∀ e ∈ y.Hk, ∀ e' ∈ y.Hn, e.1 ≠ e'.1
 kg : ∀ e ∈ y.Hk, ∀ e' ∈ y.G, e.1 ≠ e'.1
 ng : ∀ e ∈ y.Hn, ∀ e' ∈ y.G, e.1 ≠ e'.1
 w : Wk y.G
 le : y.ns.length ≤ y.css.length
theorem own_lk {F : Base} {n T len : Nat} {l : List Value} {v : Value} {A Hk R H : Hp} (ho : OwnS F n T l len v Hk) (hH : H = A ++ (Hk ++ R)) (hA : ∀ e ∈ A, ∀ e' ∈ Hk, e.1 ≠ e'.1) : ∀ e ∈ Hk, lk H e.1 = some e.2 := fun e he => by
 rw [hH, lk_append, lk_none fun e' he' => hA e' he' e he, lk_append]
 have := ho.lk [] (fun _ h => by cases h) e he
 rw [List.nil_append] at this
 rw [this]
theorem OwnS.noneF' {F : Base} {n T len : Nat} {l : List Value} {v : Value} {Ho : Hp} (h : OwnS F n T l len v Ho) : ∀ e ∈ Ho, F e.1 = none := by
 cases h with
 | nil => intro e he; cases he
 | own b2 cap sp l len hF2 hl hs hc hm => intro e he; rw [List.mem_singleton.1 he]; exact hF2
theorem flat_len12 {css : List (List Value)} (h : ∀ c ∈ css, c.length = 12) : css.flatten.length = css.length * 12 := by
 induction css with
 | nil => rfl
 | cons x r ih => rw [List.flatten_cons, List.length_append, h x List.mem_cons_self, ih fun c hc => h c (List.mem_cons_of_mem _ hc), List.length_cons]; omega
theorem OwnS.sub {F : Base} {n T len : Nat} {l : List Value} {v : Value} {Hk : Hp} (ho : OwnS F n T l len v Hk) : Wk Hk := fun e he => by
 have := ho.lk [] (fun _ h => by cases h) e he
 rwa [List.nil_append] at this
theorem names_sls {F : Base} {T : Nat} {ns : List Str} {v : Value} {Hn H : Hp} (ho : OwnS F 1 T (ns.map fun s => Value.string (bs s)) ns.length v Hn) (hl : ∀ e ∈ Hn, lk H e.1 = some e.2) (hb : ∀ s ∈ ns, s.length ≤ 65536) (hc : ns.length ≤ 9223372036854775807) : SlS (rdObj F H) v ns := by
 rcases ho.out with ⟨h1, h2, rfl, -⟩ | ⟨b, cap, sp, rfl, rfl, hF, h1, h2, h3, h4⟩
 ·have : ns = [] := List.eq_nil_of_length_eq_zero h2
  subst this; exact slS_nil
 ·refine ⟨_, _, rfl, h3, hc, fun i s hs => ?_, fun i s hs => Nat.le_trans (hb s (List.mem_of_getElem? hs)) (by decide)⟩
  have hlt : i < ns.length := (List.getElem?_eq_some_iff.mp hs).1
  refine ⟨b, 0, _, _, _, rfl, (rdObj_own hF).trans (hl _ (List.mem_singleton.2 rfl)), by simp; omega, ?_⟩
  simp only [Nat.zero_add, Nat.mul_one]
  rw [List.drop_append_of_le_length (by simp; omega), List.take_append_of_le_length (by simp; omega)]
  apply List.ext_getElem?
  intro k
  rcases k with _ | k
  ·simp [hs]
  ·simp; omega
theorem it_rep {F : Base} {b bo : Nat} {op : Int} {y : ItS} (h : ItOk F b bo y) (hop : I64 op) (he : y.s.e = 0) (hc : y.css.length ≤ 65540) :
  RepP (rdObj F (y.Hk ++ (y.Hn ++ y.G))) (xcells op lv0 (.slice none 0 0) (.slice none 0 0) [] y.vk y.vn) (.mk op lv0 [] y.ks y.ns) := by
 obtain ⟨hlen, hr⟩ := h.r he
 have hle := h.le
 have hN : SlS (rdObj F (y.Hk ++ (y.Hn ++ y.G))) y.vn y.ns := names_sls h.hn (own_lk h.hn rfl h.kn) h.nl (by omega)
 have up : ∀ b o, rdObj F y.G b = some o → rdObj F (y.Hk ++ (y.Hn ++ y.G)) b = some o := fun _ _ hb => rdObj_sub (fun e he => by
  rw [lk_append, lk_none fun e' he' => h.kg e' he' e he, lk_append, lk_none fun e' he' => h.ng e' he' e he]
  exact h.w e he) hb
 rcases h.hk.out with ⟨h1, h2, hv, -⟩ | ⟨bk, cap, sp, hv, hH, hF, h1, h2, h3, h4⟩
 ·have hk0 : y.ks = [] := List.eq_nil_of_length_eq_zero (by omega)
  rw [hv, hk0]
  exact .mk op lv0 [] none 0 [] (fun _ => []) _ _ hop (i64_lit rfl) (i64_lit rfl) (Nat.zero_le _) (Nat.le_refl _) (fun i t h => by simp at h) (fun i t h => by simp at h) hN
 ·rw [hv, hlen]
  refine repP_node (bk := bk) (css := y.css) (sp := sp) (T := 30) (fz := (0, 0)) hop (i64_lit rfl) (i64_lit rfl) ?_ hlen (by omega) (by omega) (fun i c t hc ht => (hr i c t hc ht).mono up) hN
  refine (rdObj_own hF).trans ?_
  have := own_lk (A := []) (R := y.Hn ++ y.G) h.hk rfl (fun _ h => by cases h) (bk, .cells (y.css.flatten ++ sp).toArray 30 (0, 0)) (by rw [hH]; exact List.mem_singleton.2 rfl)
  exact this
theorem ItOk.add {F : Base} {b bo : Nat} {p1 s2 : St} {ks : List Ex'} {ns : List Str} {css : List (List Value)} {vn : Value} {Hn G1 : Hp} {cs1 sp : List Value} {x : Ex'} {b2 cap : Nat} (hA1 : Agr p1 s2) (hg2 : Good s2) (h12 : ∀ c ∈ css, c.length = 12) (hc1 : cs1.length = 12)
  (hn : OwnS F 1 9 (ns.map fun s => Value.string (bs s)) ns.length vn Hn) (hnl : ∀ s ∈ ns, s.length ≤ 65536) (hr : s2.e = 0 → (css.length = ks.length ∧ ∀ (i : Nat) (c : List Value) (t : Ex'), css[i]? = some c → ks[i]? = some t → RepP (rdObj F G1) c t) ∧ RepP (rdObj F G1) cs1 x)
  (hF2 : F b2 = none) (hs : sp.length = (cap - (css.length + 1)) * 12) (hcap : css.length + 1 ≤ cap) (hcm : cap ≤ 9223372036854775807) (n2b : b ≠ b2) (n2o : bo ≠ b2) (on : Off b bo Hn) (nG1 : ∀ e ∈ G1, e.1 ≠ b) (gbo : ∀ e ∈ G1, e.1 ≠ bo) (n2n : ∀ e ∈ Hn, e.1 ≠ b2) (n2g : ∀ e ∈ G1, e.1 ≠ b2)
  (ng1 : ∀ e ∈ Hn, ∀ e' ∈ G1, e.1 ≠ e'.1) (hw1 : Wk G1) (hle : ns.length ≤ css.length + 1) :
  ItOk F b bo ⟨p1, s2, ks ++ [x], ns, css ++ [cs1], .slice (some ⟨b2, 0, none⟩) (css.length + 1) cap, vn, [(b2, .cells (css.flatten ++ cs1 ++ sp).toArray 30 (0, 0))], Hn, G1⟩ where
 A := hA1
 g := hg2
 hk := OwnS.mk sp hF2 (by simp) (by simp) (by rw [flat_len12 fun c hc => by
  rcases List.mem_append.1 hc with h | h
  ·exact h12 c h
  ·rw [List.mem_singleton.1 h]; exact hc1]) (by simpa using hs) (by simpa using hcap) hcm
 h12 := fun c hc => by
  rcases List.mem_append.1 hc with h | h
  ·exact h12 c h
  ·rw [List.mem_singleton.1 h]; exact hc1
 hn := hn
 nl := hnl
 r := fun he => by
  obtain ⟨⟨hl, hi⟩, hx⟩ := hr he
  refine ⟨by simp [hl], fun i c t hc ht => ?_⟩
  rcases Nat.lt_trichotomy i css.length with h | h | h
  ·rw [List.getElem?_append_left h] at hc
   rw [List.getElem?_append_left (by omega)] at ht
   exact hi i c t hc ht
  ·subst h
   rw [List.getElem?_append_right (Nat.le_refl _), Nat.sub_self] at hc
   rw [hl, List.getElem?_append_right (Nat.le_refl _), Nat.sub_self] at ht
   simp only [List.getElem?_cons_zero, Option.some.injEq] at hc ht
   subst hc ht; exact hx
  ·rw [List.getElem?_eq_none (by simp; omega)] at hc; cases hc
 ok := fun e he => by rw [List.mem_singleton.1 he]; exact ⟨n2b.symm, n2o.symm⟩
 on := on
 og := fun e he => ⟨nG1 e he, gbo e he⟩
 kn := fun e he e' he' => by rw [List.mem_singleton.1 he]; exact (n2n e' he').symm
 kg := fun e he e' he' => by rw [List.mem_singleton.1 he]; exact (n2g e' he').symm
 ng := ng1
 w := hw1
 le := by simpa using hle
def OneC (F : Base) (ws : Ws) (l : Value) (b bo : Nat) (op : Int) (fv : Value) (n : Nat) : Prop := ∃ f ca, fv = .func (.func f) #[] ca ∧ callable Tryd.prog f = true ∧ ∀ (y : ItS) (x : Ex') (s2 : St), ItOk F b bo y → y.css.length ≤ 65540 → (op ≠ 20 → y.ns = []) → G ws n .expr (headS ws op y.ns y.s).2 = some (x, s2) →
 Does Tryd.prog F f ca (itH l b bo op y) (fun r H' => r = .tuple #[] ∧ ∃ y', ItOk F b bo y' ∧ y'.s = s2 ∧ y'.ns = (headS ws op y.ns y.s).1 ∧ (s2.e = 0 → y'.ks = y.ks ++ [x]) ∧ y'.css.length = y.css.length + 1 ∧ H' = itH l b bo op y')
end Go.Proofs.YtkbhinfpndnnfaaDoor
namespace Go.Proofs.YtkbhinfpndnnfaaDoor
open Go Go.Eng
set_option maxHeartbeats 1000000
set_option linter.unusedSimpArgs false
set_option linter.unusedVariables false
set_option maxRecDepth 20000
theorem one1_call : callable Tryd.prog 71 = true := by kernel_rfl
theorem one2_call : callable Tryd.prog 72 = true := by kernel_rfl
theorem take_two {ws : Ws} {p s : St} (h : Agr p s) {k : Int} (hk : k = if wk ws p = 3 then 3 else 1) : (takeS ws p k).1 = (takeS ws s (if wk ws s = 3 then 3 else 1)).1 ∧ Agr (takeS ws p k).2 (takeS ws s (if wk ws s = 3 then 3 else 1)).2 := by
 by_cases he : s.e = 0
 ·obtain rfl := h.ok he
  rw [hk]; exact ⟨rfl, .inl rfl⟩
 ·rw [takeS_err he, takeS_err (by rw [h.e]; exact he)]; exact ⟨rfl, h⟩
theorem one1 (F : Base) {ws : Ws} {l : Value} (hW : HasW F ws l) {b bo b1 T1 : Nat} {fz : Nat × Nat} (hbo : b ≠ bo) (hFb : F b = none) (hFo : F bo = none) (h1 : F b1 = some (.cells #[.pointer (some ⟨b, 0, none⟩)] T1 fz)) (n : Nat) (hx : Prs F l 16 (G ws n .expr)) :
  OneC F ws l b bo 19 (.func (.func 71) #[] #[.pointer (some ⟨bo, 0, none⟩), .pointer (some ⟨b1, 0, none⟩)]) n := by
 refine ⟨_, _, rfl, one1_call, fun y x s2 hy hcl hns hR => ?_⟩
 obtain ⟨p, s, ks, ns, css, vk, vn, Hk, Hn, G0⟩ := y
 obtain ⟨hA, hg, hk, h12, hn, hnl, hr, ok, on, og, kn, kg, ng, hw, hle⟩ := hy
 dsimp only at hA hg hk h12 hn hnl hr ok on og kn kg ng hw hle hcl hns hR ⊢
 rw [show headS ws 19 ns s = (ns, s) from if_neg (by decide)] at hR ⊢
 simp only at hR ⊢
 have hg2 := hg.go hR
 have h21 : s2.e = 0 → s.e = 0 := fun he => (G_goes ws n _ _ _ hR he).1
 refine Does.shr (K := fun r H' => r = .tuple #[] ∧ ∃ y', ItOk F b bo y' ∧ y'.s = s2 ∧ y'.ns = ns ∧ (s2.e = 0 → y'.ks = ks ++ [x]) ∧ y'.css.length = css.length + 1 ∧ ∀ e ∈ itH l b bo 19 y', e ∈ H') ?_ fun r H' ⟨h1, y', a1, a2, a3, a4, a5, a6⟩ => ⟨_, a6, h1, y', a1, a2, a3, a4, a5, rfl⟩
 refine does_of_svc (args := [.pointer (some ⟨bo, 0, none⟩), .pointer (some ⟨b1, 0, none⟩)]) mixed Tryd.func71 low71 (Nat.le_of_ble_eq_true rfl) fun w0 hw0 => ?_
 unfold itH
 dsimp only
 obtain ⟨base, capk, hvk, hck⟩ := hk.len_le
 subst hvk
 have fl := flat_len12 h12
 have ok1 : Nb b Hk := .of fun e he => (ok e he).1
 have ok2 : Nb bo Hk := .of fun e he => (ok e he).2
 have on1 : Nb b Hn := .of fun e he => (on e he).1
 have on2 : Nb bo Hn := .of fun e he => (on e he).2
 have og1 : Nb b G0 := .of fun e he => (og e he).1
 have og2 : Nb bo G0 := .of fun e he => (og e he).2
 have kn1 : Dj Hn Hk := Dj.iff.2 fun e he e' he' => kn e' he' e he
 have kn2 := kn1.symm
 have kg1 : Dj Hk G0 := Dj.iff.2 fun e he e' he' => (kg e he e' he').symm
 have ng1 : Dj Hn G0 := Dj.iff.2 fun e he e' he' => (ng e he e' he').symm
 have gn1 := ng1.symm
 have nk := hk.noF
 have hwk := OwnS.sub hk
 have nn := hn.noF
 have hbo' := hbo.symm
 clear ok on og kn kg ng hns
 delta fu71
 simp only [*, ↓ZD, ZW, RO, simprocAttr]
 refine TreeL.open ?_
 simp only [*, ↓ZD, ZW, RO, simprocAttr]
 refine ⟨⟨?c1, ?n1⟩, ?c2, ?n2⟩
 case' c1 | c2 =>
  refine CallE.par hx hA hg hR rfl (by simp only [*, List.append_nil, ↓ZD, ZW, RO, simprocAttr]) ?_
  rintro p1 cs1 G1 hA1 hr1 ⟨c12, nb1, hd1, hx1, hw1⟩
  have cok := c12.2.1
  simp only [Dj_cons, Dj_app, Dj_nil] at hd1
  simp only [*, List.append_assoc, ↓ZD, ZW, RO, simprocAttr]
  refine NewB.n ?_
  intro bz hz hFz
  simp only [Nb_cons, Nb_app, Nb_nil] at hz
  simp only [*, List.append_assoc, ↓ZD, ZW, RO, simprocAttr]
 case' n1 | n2 =>
  refine NewB.n ?_
  intro bz hz hFz
  simp only [Nb_cons, Nb_app, Nb_nil] at hz
  simp only [*, List.append_assoc, ↓ZD, ZW, RO, simprocAttr]
 case' n2 => refine ⟨?_, ?_⟩
 case' n1 | n2.refine_1 | n2.refine_2 =>
  refine CallE.par hx hA hg hR rfl (by simp only [*, List.append_nil, ↓ZD, ZW, RO, simprocAttr]) ?_
  rintro p1 cs1 G1 hA1 hr1 ⟨c12, nb1, hd1, hx1, hw1⟩
  have cok := c12.2.1
  simp only [Dj_cons, Dj_app, Dj_nil] at hd1
  simp only [*, List.append_assoc, ↓ZD, ZW, RO, simprocAttr]
 all_goals
  have d1 : Dj G1 Hk := Dj.symm (by simp only [*, ↓ZD, ZW, RO, simprocAttr])
  refine EfL.more (m := 1) (nw := zx) hk (by simp only [*, ↓ZD, ZW, RO, simprocAttr]) ?_ rfl (by decide) (by simp) (by omega) ?_
  ·rw [rowsOf_sl, cellsAt_O, rdObj_own hFz]; simp only [lk, *]; rfl
  intro b2 cap sp hs hcap hcm hF2 h2
  simp only [Nb_cons, Nb_app, Nb_nil] at h2
  have e0 : (css.flatten ++ zx ++ sp).length = css.length * 12 + 12 + sp.length := by simp only [List.length_append, fl, List.length_cons, List.length_nil]
  have e1 : (css.flatten ++ zx ++ sp).take (css.length * 12) = css.flatten := by rw [List.append_assoc]; exact List.take_left' fl
  have e2 : (css.flatten ++ zx ++ sp).drop (css.length * 12 + 12) = sp := by rw [← List.drop_drop, List.append_assoc, List.drop_left' fl]; rfl
  have hi : ((css.length : Nat) : Int).toNat = css.length := Int.toNat_natCast _
  simp only [*, ↓ZD, ZW, RO, simprocAttr]
  refine conj.of (by omega) ?_
  simp only [*, ↓ZD, ZW, RO, simprocAttr]
  obtain ⟨h2a, h2b, h2c, h2d⟩ : Nb b2 Hn ∧ Nb b2 G1 ∧ Nb bo G1 ∧ Dj Hn G1 := by simp only [h2, hd1, and_self]
  try refine (fun h => And.intro h h) ?_
  refine ⟨_, ItOk.add hA1 hg2 h12 c12.1 hn hnl (fun he => ⟨⟨(hr (h21 he)).1, fun i c t hc ht => ((hr (h21 he)).2 i c t hc ht).mono hx1⟩, hr1 he⟩) hF2 hs hcap hcm (by simp only [h2, ne_eq, not_false_eq_true]) (by simp only [h2, ne_eq, not_false_eq_true]) (fun e he => ⟨on1.all e he, on2.all e he⟩) nb1.all h2c.all h2a.all h2b.all (fun e he e' he' => (Dj.iff.1 h2d e he e' he').symm) hw1 (by first | omega | (simp only [List.length_append, List.length_cons, List.length_nil]; omega)), rfl, rfl, fun _ => rfl, by simp, ?_⟩
  intro e he
  simp only [List.mem_cons, List.mem_append, List.not_mem_nil, or_false] at he ⊢
  rcases he with rfl | rfl | rfl | h | h <;> simp [*]
set_option maxHeartbeats 2000000 in
theorem one2 (F : Base) {ws : Ws} (hws : WsOk ws) {l : Value} (hW : HasW F ws l) {b bo b1 T1 : Nat} {fz : Nat × Nat} (hbo : b ≠ bo) (hFb : F b = none) (hFo : F bo = none) (h1 : F b1 = some (.cells #[.pointer (some ⟨b, 0, none⟩)] T1 fz)) (n : Nat) (hx : Prs F l 16 (G ws n .expr)) :
  OneC F ws l b bo 20 (.func (.func 72) #[] #[.pointer (some ⟨b1, 0, none⟩), .pointer (some ⟨bo, 0, none⟩)]) n := by
 refine ⟨_, _, rfl, one2_call, fun y x s2 hy hcl hns hR => ?_⟩
 obtain ⟨p, s, ks, ns, css, vk, vn, Hk, Hn, G0⟩ := y
 obtain ⟨hA, hg, hk, h12, hn, hnl, hr, ok, on, og, kn, kg, ng, hw, hle⟩ := hy
 dsimp only at hA hg hk h12 hn hnl hr ok on og kn kg ng hw hle hcl hns hR ⊢
 rw [show headS ws 20 ns s = (ns ++ [(takeS ws s (if wk ws s = 3 then 3 else 1)).1], mustS ws (takeS ws s (if wk ws s = 3 then 3 else 1)).2 [58]) from if_pos rfl] at hR ⊢
 simp only at hR ⊢
 have hgm : Good (mustS ws (takeS ws s (if wk ws s = 3 then 3 else 1)).2 [58]) := hg.take.must
 have hg2 := hgm.go hR
 have h21 : s2.e = 0 → s.e = 0 := fun he => take_e (must_e (G_goes ws n _ _ _ hR he).1)
 refine Does.shr (K := fun r H' => r = .tuple #[] ∧ ∃ y', ItOk F b bo y' ∧ y'.s = s2 ∧ y'.ns = ns ++ [(takeS ws s (if wk ws s = 3 then 3 else 1)).1] ∧ (s2.e = 0 → y'.ks = ks ++ [x]) ∧ y'.css.length = css.length + 1 ∧ ∀ e ∈ itH l b bo 20 y', e ∈ H') ?_ fun r H' ⟨h1, y', a1, a2, a3, a4, a5, a6⟩ => ⟨_, a6, h1, y', a1, a2, a3, a4, a5, rfl⟩
 refine does_of_svc (args := [.pointer (some ⟨b1, 0, none⟩), .pointer (some ⟨bo, 0, none⟩)]) mixed Tryd.func72 low72 (Nat.le_of_ble_eq_true rfl) fun w0 hw0 => ?_
 unfold itH
 dsimp only
 obtain ⟨base, capk, hvk, hck⟩ := hk.len_le
 subst hvk
 have fl := flat_len12 h12
 have ok1 : Nb b Hk := .of fun e he => (ok e he).1
 have ok2 : Nb bo Hk := .of fun e he => (ok e he).2
 have on1 : Nb b Hn := .of fun e he => (on e he).1
 have on2 : Nb bo Hn := .of fun e he => (on e he).2
 have og1 : Nb b G0 := .of fun e he => (og e he).1
 have og2 : Nb bo G0 := .of fun e he => (og e he).2
 have kn1 : Dj Hn Hk := Dj.iff.2 fun e he e' he' => kn e' he' e he
 have kn2 := kn1.symm
 have kg1 : Dj Hk G0 := Dj.iff.2 fun e he e' he' => (kg e he e' he').symm
 have ng1 : Dj Hn G0 := Dj.iff.2 fun e he e' he' => (ng e he e' he').symm
 have gn1 := ng1.symm
 have nk := hk.noF
 have hwk := OwnS.sub hk
 have nn := hn.noF
 have hbo' := hbo.symm
 clear ok on og kn kg ng hns
 obtain ⟨basn, capn, hvn, hcn⟩ := hn.len_le
 subst hvn
 simp (disch := first | assumption | exact Ne.symm (by assumption) | omega) only [fu72, hFb, hFo, h1, ↓ZD, ZW, simprocAttr]
 refine CallE.pureH (word_pure (b := b) (p := p) _ (hW.mono le_up) (by simp [rdObj, hFb, lk])) ?_
 simp (disch := first | assumption | exact Ne.symm (by assumption) | omega) only [hFb, hFo, h1, wf0, wsz, ↓ZD, ZW, simprocAttr]
 have hkd : ∀ k : Int, k = (if wk ws p = 3 then 3 else 1) → (takeS ws p k).1 = (takeS ws s (if wk ws s = 3 then 3 else 1)).1 ∧ Agr (takeS ws p k).2 (takeS ws s (if wk ws s = 3 then 3 else 1)).2 := fun k h => take_two hA h
 have hTl : (takeS ws s (if wk ws s = 3 then 3 else 1)).1.length ≤ 65536 := take_name hws
 generalize (takeS ws s (if wk ws s = 3 then 3 else 1)) = TS at *
 refine ⟨fun hq => ?_, fun hq => ?_⟩
 ·have hk3 : (3 : Int) = (if wk ws p = 3 then 3 else 1) := by rw [if_pos (show wk ws p = 3 from beq_iff_eq.1 hq)]
  obtain ⟨hT1, hT2⟩ := hkd _ hk3
  clear hk3 hkd
  refine TreeL.cut (α := Hp × Value) (fun y => OwnS F 1 9 ((ns ++ [TS.1]).map fun s => Value.string (bs s)) (ns ++ [TS.1]).length y.2 y.1 ∧ (Nb b y.1 ∧ Nb bo y.1) ∧ (Dj Hk y.1 ∧ Dj y.1 Hk) ∧ Dj y.1 G0)
   (fun y => [(0, some (.pointer (some ⟨b1, 0, none⟩))), (1, some (.pointer (some ⟨bo, 0, none⟩)))]) (fun y => (b, RdO l (takeS ws p 3).2) :: (bo, outO 20 (.slice base css.length capk) y.2) :: (Hk ++ (y.1 ++ G0))) ?_ ?_
  ·simp only [*, ↓ZD, ZW, RO, simprocAttr]
   refine ⟨?_, ?_⟩
   iterate 2
    ·refine CallE.rdq (fun F' hF hb => take_rd F' (hW.mono hF) hb p 3 (by decide)) rfl (by simp only [*, List.append_nil, ↓ZD, ZW, RO, simprocAttr]) ?_
     rw [hT1]
     simp only [*, List.append_assoc, List.append_nil, ↓ZD, ZW, RO, simprocAttr]
     refine NewB.n ?_
     intro bz hz hFz
     simp only [Nb_cons, Nb_app, Nb_nil] at hz
     simp only [*, List.append_assoc, ↓ZD, ZW, RO, simprocAttr]
     refine EfL.more (m := 1) (nw := [Value.string (bs TS.1)]) hn (by simp only [*, ↓ZD, ZW, RO, simprocAttr]) ?_ rfl (by simp [oneCell]) (by simp) (by omega) ?_
     ·rw [rowsOf_sl, cellsAt_O, rdObj_own hFz]; simp only [lk, *]; rfl
     intro bn cap sp hs hcap hcm hFn h2
     simp only [Nb_cons, Nb_app, Nb_nil] at h2
     simp only [*, List.append_assoc, ↓ZD, ZW, RO, simprocAttr]
     obtain ⟨h2k, h2g⟩ : Nb bn Hk ∧ Nb bn G0 := by simp only [h2, and_self]
     refine CutK.on ([(bn, .cells ((ns.map fun s => Value.string (bs s)) ++ [Value.string (bs TS.1)] ++ sp).toArray 9 (0, 0))], .slice (some ⟨bn, 0, none⟩) (ns.length + 1) cap) ⟨OwnS.mk sp hFn (by simp) (by simp) (by simp) (by simpa using hs) (by simpa using hcap) hcm, by simp only [*, ↓ZD, ZW, RO, simprocAttr], ⟨Dj.symm ⟨h2k, trivial⟩, ⟨h2k, trivial⟩⟩, ⟨h2g, trivial⟩⟩ (by simp only [*, ↓ZD, ZW, RO, simprocAttr]) ?_
     simp only [*, List.append_assoc, ↓ZD, ZW, RO, simprocAttr]
  ·rintro ⟨Hn, vn2⟩ ⟨hn2, ⟨on1', on2'⟩, ⟨kn2', kn1'⟩, ng1'⟩
   dsimp only at hn2 on1' on2' kn1' kn2' ng1' ⊢
   clear hn on1 on2 kn1 kn2 ng1 gn1 nn
   have gn1 := ng1'.symm
   have nn := hn2.noF
   have hn := hn2
   have on1 := on1'
   have on2 := on2'
   simp only [*, ↓ZD, ZW, RO, simprocAttr]
   refine CallE.rdq (must_q hW (takeS ws p 3).2 [58]) rfl (by simp only [*, List.append_nil, ↓ZD, ZW, RO, simprocAttr]) ?_
   have hA := hT2.must (t := [58]) (ws := ws)
   have hnl : ∀ s ∈ ns ++ [TS.1], s.length ≤ 65536 := fun s hs => by
    rcases List.mem_append.1 hs with h | h
    ·exact hnl s h
    ·rw [List.mem_singleton.1 h]; exact hTl
   have hg := hgm
   simp only [*, List.append_assoc, List.append_nil, ↓ZD, ZW, RO, simprocAttr]
   refine TreeL.open ?_
   simp only [*, ↓ZD, ZW, RO, simprocAttr]
   refine ⟨⟨?c1, ?n1⟩, ?c2, ?n2⟩
   case' c1 | c2 =>
    refine CallE.par hx hA hg hR rfl (by simp only [*, List.append_nil, ↓ZD, ZW, RO, simprocAttr]) ?_
    rintro p1 cs1 G1 hA1 hr1 ⟨c12, nb1, hd1, hx1, hw1⟩
    have cok := c12.2.1
    simp only [Dj_cons, Dj_app, Dj_nil] at hd1
    simp only [*, List.append_assoc, ↓ZD, ZW, RO, simprocAttr]
    refine NewB.n ?_
    intro bz hz hFz
    simp only [Nb_cons, Nb_app, Nb_nil] at hz
    simp only [*, List.append_assoc, ↓ZD, ZW, RO, simprocAttr]
   case' n1 | n2 =>
    refine NewB.n ?_
    intro bz hz hFz
    simp only [Nb_cons, Nb_app, Nb_nil] at hz
    simp only [*, List.append_assoc, ↓ZD, ZW, RO, simprocAttr]
   case' n2 => refine ⟨?_, ?_⟩
   case' n1 | n2.refine_1 | n2.refine_2 =>
    refine CallE.par hx hA hg hR rfl (by simp only [*, List.append_nil, ↓ZD, ZW, RO, simprocAttr]) ?_
    rintro p1 cs1 G1 hA1 hr1 ⟨c12, nb1, hd1, hx1, hw1⟩
    have cok := c12.2.1
    simp only [Dj_cons, Dj_app, Dj_nil] at hd1
    simp only [*, List.append_assoc, ↓ZD, ZW, RO, simprocAttr]
   all_goals
    have d1 : Dj G1 Hk := Dj.symm (by simp only [*, ↓ZD, ZW, RO, simprocAttr])
    refine EfL.more (m := 1) (nw := zx) hk (by simp only [*, ↓ZD, ZW, RO, simprocAttr]) ?_ rfl (by decide) (by simp) (by omega) ?_
    ·rw [rowsOf_sl, cellsAt_O, rdObj_own hFz]; simp only [lk, *]; rfl
    intro b2 cap sp hs hcap hcm hF2 h2
    simp only [Nb_cons, Nb_app, Nb_nil] at h2
    have e0 : (css.flatten ++ zx ++ sp).length = css.length * 12 + 12 + sp.length := by simp only [List.length_append, fl, List.length_cons, List.length_nil]
    have e1 : (css.flatten ++ zx ++ sp).take (css.length * 12) = css.flatten := by rw [List.append_assoc]; exact List.take_left' fl
    have e2 : (css.flatten ++ zx ++ sp).drop (css.length * 12 + 12) = sp := by rw [← List.drop_drop, List.append_assoc, List.drop_left' fl]; rfl
    have hi : ((css.length : Nat) : Int).toNat = css.length := Int.toNat_natCast _
    simp only [*, ↓ZD, ZW, RO, simprocAttr]
    refine conj.of (by omega) ?_
    simp only [*, ↓ZD, ZW, RO, simprocAttr]
    obtain ⟨h2a, h2b, h2c, h2d⟩ : Nb b2 Hn ∧ Nb b2 G1 ∧ Nb bo G1 ∧ Dj Hn G1 := by simp only [h2, hd1, and_self]
    try refine (fun h => And.intro h h) ?_
    refine ⟨_, ItOk.add hA1 hg2 h12 c12.1 hn hnl (fun he => ⟨⟨(hr (h21 he)).1, fun i c t hc ht => ((hr (h21 he)).2 i c t hc ht).mono hx1⟩, hr1 he⟩) hF2 hs hcap hcm (by simp only [h2, ne_eq, not_false_eq_true]) (by simp only [h2, ne_eq, not_false_eq_true]) (fun e he => ⟨on1.all e he, on2.all e he⟩) nb1.all h2c.all h2a.all h2b.all (fun e he e' he' => (Dj.iff.1 h2d e he e' he').symm) hw1 (by first | omega | (simp only [List.length_append, List.length_cons, List.length_nil]; omega)), rfl, rfl, fun _ => rfl, by simp, ?_⟩
    intro e he
    simp only [List.mem_cons, List.mem_append, List.not_mem_nil, or_false] at he ⊢
    rcases he with rfl | rfl | rfl | h | h <;> simp [*]
 ·have hk3 : (1 : Int) = (if wk ws p = 3 then 3 else 1) := by rw [if_neg (show ¬ wk ws p = 3 from beq_eq_false_iff_ne.1 hq)]
  obtain ⟨hT1, hT2⟩ := hkd _ hk3
  clear hk3 hkd
  refine TreeL.cut (α := Hp × Value) (fun y => OwnS F 1 9 ((ns ++ [TS.1]).map fun s => Value.string (bs s)) (ns ++ [TS.1]).length y.2 y.1 ∧ (Nb b y.1 ∧ Nb bo y.1) ∧ (Dj Hk y.1 ∧ Dj y.1 Hk) ∧ Dj y.1 G0)
   (fun y => [(0, some (.pointer (some ⟨b1, 0, none⟩))), (1, some (.pointer (some ⟨bo, 0, none⟩)))]) (fun y => (b, RdO l (takeS ws p 1).2) :: (bo, outO 20 (.slice base css.length capk) y.2) :: (Hk ++ (y.1 ++ G0))) ?_ ?_
  ·simp only [*, ↓ZD, ZW, RO, simprocAttr]
   refine ⟨?_, ?_⟩
   iterate 2
    ·refine CallE.rdq (fun F' hF hb => take_rd F' (hW.mono hF) hb p 1 (by decide)) rfl (by simp only [*, List.append_nil, ↓ZD, ZW, RO, simprocAttr]) ?_
     rw [hT1]
     simp only [*, List.append_assoc, List.append_nil, ↓ZD, ZW, RO, simprocAttr]
     refine NewB.n ?_
     intro bz hz hFz
     simp only [Nb_cons, Nb_app, Nb_nil] at hz
     simp only [*, List.append_assoc, ↓ZD, ZW, RO, simprocAttr]
     refine EfL.more (m := 1) (nw := [Value.string (bs TS.1)]) hn (by simp only [*, ↓ZD, ZW, RO, simprocAttr]) ?_ rfl (by simp [oneCell]) (by simp) (by omega) ?_
     ·rw [rowsOf_sl, cellsAt_O, rdObj_own hFz]; simp only [lk, *]; rfl
     intro bn cap sp hs hcap hcm hFn h2
     simp only [Nb_cons, Nb_app, Nb_nil] at h2
     simp only [*, List.append_assoc, ↓ZD, ZW, RO, simprocAttr]
     obtain ⟨h2k, h2g⟩ : Nb bn Hk ∧ Nb bn G0 := by simp only [h2, and_self]
     refine CutK.on ([(bn, .cells ((ns.map fun s => Value.string (bs s)) ++ [Value.string (bs TS.1)] ++ sp).toArray 9 (0, 0))], .slice (some ⟨bn, 0, none⟩) (ns.length + 1) cap) ⟨OwnS.mk sp hFn (by simp) (by simp) (by simp) (by simpa using hs) (by simpa using hcap) hcm, by simp only [*, ↓ZD, ZW, RO, simprocAttr], ⟨Dj.symm ⟨h2k, trivial⟩, ⟨h2k, trivial⟩⟩, ⟨h2g, trivial⟩⟩ (by simp only [*, ↓ZD, ZW, RO, simprocAttr]) ?_
     simp only [*, List.append_assoc, ↓ZD, ZW, RO, simprocAttr]
  ·rintro ⟨Hn, vn2⟩ ⟨hn2, ⟨on1', on2'⟩, ⟨kn2', kn1'⟩, ng1'⟩
   dsimp only at hn2 on1' on2' kn1' kn2' ng1' ⊢
   clear hn on1 on2 kn1 kn2 ng1 gn1 nn
   have gn1 := ng1'.symm
   have nn := hn2.noF
   have hn := hn2
   have on1 := on1'
   have on2 := on2'
   simp only [*, ↓ZD, ZW, RO, simprocAttr]
   refine CallE.rdq (must_q hW (takeS ws p 1).2 [58]) rfl (by simp only [*, List.append_nil, ↓ZD, ZW, RO, simprocAttr]) ?_
   have hA := hT2.must (t := [58]) (ws := ws)
   have hnl : ∀ s ∈ ns ++ [TS.1], s.length ≤ 65536 := fun s hs => by
    rcases List.mem_append.1 hs with h | h
    ·exact hnl s h
    ·rw [List.mem_singleton.1 h]; exact hTl
   have hg := hgm
   simp only [*, List.append_assoc, List.append_nil, ↓ZD, ZW, RO, simprocAttr]
   refine TreeL.open ?_
   simp only [*, ↓ZD, ZW, RO, simprocAttr]
   refine ⟨⟨?c1a, ?n1a⟩, ?c2a, ?n2a⟩
   case' c1a | c2a =>
    refine CallE.par hx hA hg hR rfl (by simp only [*, List.append_nil, ↓ZD, ZW, RO, simprocAttr]) ?_
    rintro p1 cs1 G1 hA1 hr1 ⟨c12, nb1, hd1, hx1, hw1⟩
    have cok := c12.2.1
    simp only [Dj_cons, Dj_app, Dj_nil] at hd1
    simp only [*, List.append_assoc, ↓ZD, ZW, RO, simprocAttr]
    refine NewB.n ?_
    intro bz hz hFz
    simp only [Nb_cons, Nb_app, Nb_nil] at hz
    simp only [*, List.append_assoc, ↓ZD, ZW, RO, simprocAttr]
   case' n1a | n2a =>
    refine NewB.n ?_
    intro bz hz hFz
    simp only [Nb_cons, Nb_app, Nb_nil] at hz
    simp only [*, List.append_assoc, ↓ZD, ZW, RO, simprocAttr]
   case' n2a => refine ⟨?_, ?_⟩
   case' n1a | n2a.refine_1 | n2a.refine_2 =>
    refine CallE.par hx hA hg hR rfl (by simp only [*, List.append_nil, ↓ZD, ZW, RO, simprocAttr]) ?_
    rintro p1 cs1 G1 hA1 hr1 ⟨c12, nb1, hd1, hx1, hw1⟩
    have cok := c12.2.1
    simp only [Dj_cons, Dj_app, Dj_nil] at hd1
    simp only [*, List.append_assoc, ↓ZD, ZW, RO, simprocAttr]
   all_goals
    have d1 : Dj G1 Hk := Dj.symm (by simp only [*, ↓ZD, ZW, RO, simprocAttr])
    refine EfL.more (m := 1) (nw := zx) hk (by simp only [*, ↓ZD, ZW, RO, simprocAttr]) ?_ rfl (by decide) (by simp) (by omega) ?_
    ·rw [rowsOf_sl, cellsAt_O, rdObj_own hFz]; simp only [lk, *]; rfl
    intro b2 cap sp hs hcap hcm hF2 h2
    simp only [Nb_cons, Nb_app, Nb_nil] at h2
    have e0 : (css.flatten ++ zx ++ sp).length = css.length * 12 + 12 + sp.length := by simp only [List.length_append, fl, List.length_cons, List.length_nil]
    have e1 : (css.flatten ++ zx ++ sp).take (css.length * 12) = css.flatten := by rw [List.append_assoc]; exact List.take_left' fl
    have e2 : (css.flatten ++ zx ++ sp).drop (css.length * 12 + 12) = sp := by rw [← List.drop_drop, List.append_assoc, List.drop_left' fl]; rfl
    have hi : ((css.length : Nat) : Int).toNat = css.length := Int.toNat_natCast _
    simp only [*, ↓ZD, ZW, RO, simprocAttr]
    refine conj.of (by omega) ?_
    simp only [*, ↓ZD, ZW, RO, simprocAttr]
    obtain ⟨h2a, h2b, h2c, h2d⟩ : Nb b2 Hn ∧ Nb b2 G1 ∧ Nb bo G1 ∧ Dj Hn G1 := by simp only [h2, hd1, and_self]
    try refine (fun h => And.intro h h) ?_
    refine ⟨_, ItOk.add hA1 hg2 h12 c12.1 hn hnl (fun he => ⟨⟨(hr (h21 he)).1, fun i c t hc ht => ((hr (h21 he)).2 i c t hc ht).mono hx1⟩, hr1 he⟩) hF2 hs hcap hcm (by simp only [h2, ne_eq, not_false_eq_true]) (by simp only [h2, ne_eq, not_false_eq_true]) (fun e he => ⟨on1.all e he, on2.all e he⟩) nb1.all h2c.all h2a.all h2b.all (fun e he e' he' => (Dj.iff.1 h2d e he e' he').symm) hw1 (by first | omega | (simp only [List.length_append, List.length_cons, List.length_nil]; omega)), rfl, rfl, fun _ => rfl, by simp, ?_⟩
    intro e he
    simp only [List.mem_cons, List.mem_append, List.not_mem_nil, or_false] at he ⊢
    rcases he with rfl | rfl | rfl | h | h <;> simp [*]
end Go.Proofs.YtkbhinfpndnnfaaDoor
namespace Go.Proofs.YtkbhinfpndnnfaaDoor
open Go Go.Eng
set_option maxHeartbeats 1000000
set_option linter.unusedSimpArgs false
set_option linter.unusedVariables false
set_option maxRecDepth 20000
theorem stp_call_guard {P : Program} {X : List Nat} {F : Base} {w0 : World} {N f l : Nat} {args : List Eng.X} {d : Option Nat} {U : Fr} {C : Cf} {H : Hp} {next : Fr → Cf → Hp → Prop} {vs : List Value} (hr : rds U C (chain C (some l)) args = some vs)
  (h1 : Wf U C (chain C (some l)) (chain C (some l)) → @CallE P X F w0 f vs.toArray H ⟨fun v H' => put d (chain C (some l)) v U C H' next⟩) (h2 : NW U C (chain C (some l)) → skp d (chain C (some l)) U C (fun U C => next U C H)) :
  stp P X F w0 N ⟨d, .call f args, some l, .e⟩ U C H next := by
 unfold stp
 simp only [hr]
 exact ⟨h1, h2⟩
theorem it_wk {F : Base} {l : Value} {b bo : Nat} {op : Int} {y : ItS} (h : ItOk F b bo y) (hbo : b ≠ bo) : Wk (itH l b bo op y) := by
 have w1 : Wk (y.Hn ++ y.G) := (OwnS.sub h.hn).app h.w fun e he e' he' => (h.ng e he e' he').symm
 have w2 : Wk (y.Hk ++ (y.Hn ++ y.G)) := (OwnS.sub h.hk).app w1 fun e he e' he' => by
  rcases List.mem_append.1 he' with h' | h'
  ·exact (h.kn e he e' h').symm
  ·exact (h.kg e he e' h').symm
 refine Wk.cons ?_ (Wk.cons ?_ w2)
 ·exact all_cons hbo.symm (all_app (fun e he => (h.ok e he).1) (all_app (fun e he => (h.on e he).1) fun e he => (h.og e he).1))
 ·exact all_app (fun e he => (h.ok e he).2) (all_app (fun e he => (h.on e he).2) fun e he => (h.og e he).2)
theorem it_wkx {F : Base} {b bo : Nat} {y : ItS} (h : ItOk F b bo y) : Wk (y.Hk ++ (y.Hn ++ y.G)) :=
 (OwnS.sub h.hk).app ((OwnS.sub h.hn).app h.w fun e he e' he' => (h.ng e he e' he').symm) fun e he e' he' => by
  rcases List.mem_append.1 he' with h' | h'
  ·exact (h.kn e he e' h').symm
  ·exact (h.kg e he e' h').symm
theorem it_off {F : Base} {b bo : Nat} {op : Int} {y : ItS} (h : ItOk F b bo y) (hbo : b ≠ bo) : ∀ e ∈ (bo, outO op y.vk y.vn) :: (y.Hk ++ (y.Hn ++ y.G)), e.1 ≠ b :=
 all_cons hbo.symm (all_app (fun e he => (h.ok e he).1) (all_app (fun e he => (h.on e he).1) fun e he => (h.og e he).1))
theorem ItOk.st {F : Base} {b bo : Nat} {y : ItS} (h : ItOk F b bo y) {p s : St} (hA : Agr p s) (hg : Good s) (he : s.e = 0 → y.s.e = 0) : ItOk F b bo { y with p := p, s := s } :=
 ⟨hA, hg, h.hk, h.h12, h.hn, h.nl, fun h0 => h.r (he h0), h.ok, h.on, h.og, h.kn, h.kg, h.ng, h.w, h.le⟩
structure LsI (F : Base) (ws : Ws) (b bo : Nat) (op : Int) (N : Nat) (xF : Ex') (sF : St) (y : ItS × Nat) : Prop where
 h : ItOk F b bo y.1
 c : y.1.s.e = 0 → (y.1.css.length : Int) ≤ y.1.s.p + 1 ∧ y.1.css.length ≤ 65538
 c2 : y.1.css.length ≤ 65539
 m : y.2 ≤ N
 n : op ≠ 20 → y.1.ns = []
 R : (isS ws y.1.s (endOf op) = true ∧ xF = .mk op lv0 [] y.1.ks y.1.ns ∧ sF = adv y.1.s) ∨ (isS ws y.1.s (endOf op) = false ∧ (y.1.s.e = 0 → G ws y.2 (.its op y.1.ns y.1.ks) (mustS ws y.1.s [44]) = some (xF, sF)) ∧ (y.1.s.e ≠ 0 → xF = nilX ∧ sF = y.1.s))
theorem head_goes {ws : Ws} {n : Nat} {op : Int} {ns : List Str} {s s2 : St} {x : Ex'} (h : G ws n .expr (headS ws op ns s).2 = some (x, s2)) : Fwd 0 s s2 := Fwd.head.trans (G_goes ws n _ _ _ h)
theorem its_one {ws : Ws} {m : Nat} {op : Int} {ns : List Str} {ks : List Ex'} {s s' : St} {x : Ex'} (h : G ws m (.its op ns ks) s = some (x, s')) :
  ∃ m' x1 s1, m' ≤ m ∧ (s.e = 0 → m' < m) ∧ G ws m' .expr (headS ws op ns s).2 = some (x1, s1) ∧ ((isS ws s1 (endOf op) = true ∧ x = .mk op lv0 [] (ks ++ [x1]) (headS ws op ns s).1 ∧ s' = adv s1) ∨ (isS ws s1 (endOf op) = false ∧ (s1.e = 0 → G ws m' (.its op (headS ws op ns s).1 (ks ++ [x1])) (mustS ws s1 [44]) = some (x, s')) ∧ (s1.e ≠ 0 → x = nilX ∧ s' = s1))) := by
 by_cases he : s.e = 0
 ·cases m with
  | zero => exact absurd he (G_zero h).1
  | succ m =>
   rw [G_succ, if_pos he] at h
   obtain ⟨⟨x1, s1⟩, h1, h2⟩ := bind_some h
   refine ⟨m, x1, s1, Nat.le_succ _, fun _ => Nat.lt_succ_self _, h1, ?_⟩
   simp only at h2
   cases hi : isS ws s1 (endOf op) with
   | true =>
    rw [hi, if_pos rfl] at h2
    simp only [Option.some.injEq, Prod.mk.injEq] at h2
    exact .inl ⟨rfl, h2.1.symm, h2.2.symm⟩
   | false =>
    rw [hi, if_neg (by decide)] at h2
    refine .inr ⟨rfl, fun _ => h2, fun h0 => ?_⟩
    rw [mustS_err h0] at h2
    exact G_err h0 _ _ h2
 ·obtain ⟨rfl, rfl⟩ := G_err he _ _ h
  have hh : (headS ws op ns s').2 = s' := by
   unfold headS; split
   ·simp only [takeS_err he, mustS_err he]
   ·rfl
  refine ⟨m, nilX, s', Nat.le_refl _, fun h0 => absurd h0 he, by rw [hh]; exact G_at he, .inr ⟨isS_err he, fun h0 => absurd h0 he, fun _ => ⟨rfl, rfl⟩⟩⟩
theorem next_R {ws : Ws} {m' : Nat} {op : Int} {ks : List Ex'} {ns' : List Str} {x1 xF : Ex'} {s1 sF : St} {y' : ItS} (k2 : y'.s = s1) (k3 : y'.ns = ns') (k4 : s1.e = 0 → y'.ks = ks ++ [x1])
  (hC : (isS ws s1 (endOf op) = true ∧ xF = .mk op lv0 [] (ks ++ [x1]) ns' ∧ sF = adv s1) ∨ (isS ws s1 (endOf op) = false ∧ (s1.e = 0 → G ws m' (.its op ns' (ks ++ [x1])) (mustS ws s1 [44]) = some (xF, sF)) ∧ (s1.e ≠ 0 → xF = nilX ∧ sF = s1))) :
  (isS ws y'.s (endOf op) = true ∧ xF = .mk op lv0 [] y'.ks y'.ns ∧ sF = adv y'.s) ∨ (isS ws y'.s (endOf op) = false ∧ (y'.s.e = 0 → G ws m' (.its op y'.ns y'.ks) (mustS ws y'.s [44]) = some (xF, sF)) ∧ (y'.s.e ≠ 0 → xF = nilX ∧ sF = y'.s)) := by
 subst k2 k3
 rcases hC with ⟨a, b, c⟩ | ⟨a, b, c⟩
 ·exact .inl ⟨a, by rw [k4 (isS_ok a)]; exact b, c⟩
 ·exact .inr ⟨a, fun h => by rw [k4 h]; exact b h, c⟩
theorem CallEF.one {X : List Nat} {F : Base} {w0 : World} {ws : Ws} {l : Value} {b bo : Nat} {op : Int} {fv : Value} {n : Nat} {K : Value → Hp → Prop} (h : OneC F ws l b bo op fv n) {y : ItS} {x : Ex'} {s2 : St} (hy : ItOk F b bo y) (hc : y.css.length ≤ 65540) (hn : op ≠ 20 → y.ns = []) (hR : G ws n .expr (headS ws op y.ns y.s).2 = some (x, s2))
  (hk : ∀ y', ItOk F b bo y' → y'.s = s2 → y'.ns = (headS ws op y.ns y.s).1 → (s2.e = 0 → y'.ks = y.ks ++ [x]) → y'.css.length = y.css.length + 1 → K (.tuple #[]) (itH l b bo op y')) :
  @CallEF Tryd.prog X F w0 fv [] (itH l b bo op y) ⟨K⟩ := by
 obtain ⟨f, ca, rfl, hcl, hf⟩ := h
 refine CallEF.does (itH l b bo op y) [] hcl (by simpa using hf y x s2 hy hc hn hR) (fun _ _ h => by simp [rdObj, h]) (fun e h => h) (fun e h => by cases h) (fun e h => by cases h) ?_
 rintro v H' ⟨rfl, y', k1, k2, k3, k4, k5, rfl⟩ - - -
 exact hk y' k1 k2 k3 k4 k5
theorem list_does (F : Base) {ws : Ws} (hws : WsOk ws) {l : Value} (hW : HasW F ws l) {b bo : Nat} (hbo : b ≠ bo) (hFb : F b = none) (hFo : F bo = none) (op : Int) {fv : Value} (N : Nat) (h1 : ∀ n ≤ N, OneC F ws l b bo op fv n)
  (y : ItS) (hy : ItOk F b bo y) (hks : y.ks = []) (hns : y.ns = []) (hcs : y.css = []) (he : y.s.e = 0) (hpos : 0 ≤ y.s.p) {x : Ex'} {s' : St} (hR : itemsG ws (G ws N) op y.s = some (x, s')) :
  Does Tryd.prog F 70 #[.pointer (some ⟨b, 0, none⟩), .string (bs (endOf op)), fv] (itH l b bo op y) (fun r H' => r = .tuple #[] ∧ ∃ y', ItOk F b bo y' ∧ y'.s = s' ∧ (s'.e = 0 → x = .mk op lv0 [] y'.ks y'.ns) ∧ y'.css.length ≤ 65540 ∧ H' = itH l b bo op y') := by
 refine does_of_svc (args := [.pointer (some ⟨b, 0, none⟩), .string (bs (endOf op)), fv]) mixed Tryd.func70 low70 (Nat.le_of_ble_eq_true rfl) fun w0 hw0 => ?_
 have hpe : y.p = y.s := hy.A.ok he
 simp (disch := first | assumption | exact Ne.symm (by assumption) | omega) only [fu70, ↓ZD, ZW, simprocAttr]
 refine CallE.rd1 ((bo, outO op y.vk y.vn) :: (y.Hk ++ (y.Hn ++ y.G))) (skip_rd _ (hW.mono le_up) (rdObj_none hFb (it_off hy hbo)) y.p (endOf op)) (by simp [itH]) (by intro e he; exact List.mem_cons_of_mem _ he) (it_off hy hbo) ?_
 rw [hpe]
 unfold itemsG at hR
 cases hi : isS ws y.s (endOf op) with
 | true =>
  rw [hi, if_pos rfl] at hR
  simp only [Option.some.injEq, Prod.mk.injEq] at hR
  obtain ⟨rfl, rfl⟩ := hR
  simp (disch := first | assumption | exact Ne.symm (by assumption) | omega) only [hi, ↓ZD, ZW, simprocAttr]
  exact ⟨{ y with p := adv y.s, s := adv y.s }, hy.st Agr.rfl' hy.g.adv (fun _ => he), rfl, fun _ => by rw [hks, hns], by rw [hcs]; decide, rfl⟩
 | false =>
  rw [hi, if_neg (by decide)] at hR
  simp (disch := first | assumption | exact Ne.symm (by assumption) | omega) only [hi, ↓ZD, ZW, simprocAttr]
  obtain ⟨m, x1, s1, hm, hm2, hE, hC⟩ := its_one hR
  have hsame : (b, RdO l y.s) :: (bo, outO op y.vk y.vn) :: (y.Hk ++ (y.Hn ++ y.G)) = itH l b bo op y := by unfold itH; rw [hpe]
  rw [hsame]
  refine CallEF.one (h1 m hm) hy (by rw [hcs]; decide) (fun _ => hns) (by rw [hns]; exact hE) ?_
  intro y1 k1 k2 k3 k4 k5
  have hfw := head_goes hE
  simp (disch := first | assumption | exact Ne.symm (by assumption) | omega) only [↓ZD, ZW, simprocAttr]
  refine LoopL.inv (α := ItS × Nat) (LsI F ws b bo op N x s') (fun z => [(0, some (.pointer (some ⟨b, 0, none⟩))), (1, some (.string (bs (endOf op)))), (2, some fv)]) (fun z => itH l b bo op z.1) (fun z => 2 * z.2 + (if z.1.s.e = 0 then 1 else 0)) (y1, m)
   ⟨k1, fun h0 => ?_, by rw [k5, hcs]; decide, hm, fun h0 => ?_, next_R k2 (by rw [k3, hns]) (fun h0 => by rw [k4 h0, hks]) hC⟩ (by (simp (disch := first | assumption | exact Ne.symm (by assumption) | omega) only [↓ZD, ZW, simprocAttr]; try trivial)) (HLe.of (it_wk k1 hbo)) ?_
  ·rw [k2] at h0 ⊢
   have := (hfw h0).2.1
   rw [k5, hcs]
   simp only [List.length_nil]
   omega
  ·rw [k3, hns]; unfold headS; rw [if_neg h0]
  clear hC hE k1 k2 k3 k4 k5 hm hm2 hfw hR hi hsame hy hks hns hcs he hpos hpe
  rintro ⟨y, m⟩ ⟨hy, hc, hc2, hm, hn, hR⟩
  dsimp only at hy hc hc2 hm hn hR ⊢
  by_cases he : y.s.e = 0
  ·have hpe : y.p = y.s := hy.A.ok he
   have hd : (y.s.e == 0) = true := by simpa using he
   have hcc := hc he
   unfold itH
   rw [hpe]
   simp (disch := first | assumption | exact Ne.symm (by assumption) | omega) only [hFb, hd, ↓ZD, ZW, simprocAttr]
   refine stp_call_guard (vs := [.pointer (some ⟨b, 0, none⟩), .string (bs (endOf op))]) (by simp (disch := first | assumption | exact Ne.symm (by assumption) | omega) only [↓ZD, ZW, simprocAttr]) (fun h => ?_) (fun h => ?_)
   ·refine CallE.rd1 ((bo, outO op y.vk y.vn) :: (y.Hk ++ (y.Hn ++ y.G))) (skip_rd _ (hW.mono le_up) (rdObj_none hFb (it_off hy hbo)) y.s (endOf op)) (by simp) (by intro e he; exact List.mem_cons_of_mem _ he) (it_off hy hbo) ?_
    rcases hR with ⟨hi, rfl, rfl⟩ | ⟨hi, hR, -⟩
    ·simp (disch := first | assumption | exact Ne.symm (by assumption) | omega) only [hi, ↓ZD, ZW, simprocAttr]
     exact ⟨{ y with p := adv y.s, s := adv y.s }, hy.st Agr.rfl' hy.g.adv (fun _ => he), rfl, fun _ => rfl, by show y.css.length ≤ 65540; omega, rfl⟩
    ·simp (disch := first | assumption | exact Ne.symm (by assumption) | omega) only [hi, ↓ZD, ZW, simprocAttr]
     refine CallE.rd1 ((bo, outO op y.vk y.vn) :: (y.Hk ++ (y.Hn ++ y.G))) (must_rd _ (hW.mono le_up) (rdObj_none hFb (it_off hy hbo)) y.s [44]) (by simp) (by intro e he; exact List.mem_cons_of_mem _ he) (it_off hy hbo) ?_
     simp (disch := first | assumption | exact Ne.symm (by assumption) | omega) only [↓ZD, ZW, simprocAttr]
     obtain ⟨m', x1, s1, hm1, hm2, hE, hC⟩ := its_one (hR he)
     have hys := hy.st (Agr.rfl' (s := mustS ws y.s [44])) hy.g.must (fun h0 => he)
     have hcm : (mustS ws y.s [44]).e = 0 → y.css.length ≤ 65537 ∧ (y.css.length : Int) ≤ (mustS ws y.s [44]).p := fun h0 => by
      unfold mustS at h0 ⊢
      split at h0
      ·rename_i h3
       rw [if_pos h3]
       have hr := isS_range h3
       have := hws.1
       exact ⟨by omega, by show (y.css.length : Int) ≤ y.s.p + 1; omega⟩
      ·exact absurd h0 (failS_e (by decide))
     refine CallEF.one (y := { y with p := mustS ws y.s [44], s := mustS ws y.s [44] }) (h1 m' (by omega)) hys (by show y.css.length ≤ 65540; omega) hn hE ?_
     intro y1 k1 k2 k3 k4 k5
     dsimp only at k3 k4 k5
     have hfw := head_goes hE
     simp (disch := first | assumption | exact Ne.symm (by assumption) | omega) only [↓ZD, ZW, simprocAttr]
     refine invK.on (y1, m') ⟨k1, fun h0 => ?_, by rw [k5]; omega, by show m' ≤ N; omega, fun h0 => ?_, next_R k2 k3 k4 hC⟩ ?_ (by (simp (disch := first | assumption | exact Ne.symm (by assumption) | omega) only [↓ZD, ZW, simprocAttr]; try trivial)) (HLe.of (it_wk k1 hbo))
     ·rw [k2] at h0 ⊢
      obtain ⟨a1, a2, a3⟩ := hfw h0
      have := hcm a1
      rw [k5]; omega
     ·rw [k3]; unfold headS; rw [if_neg h0]; exact hn h0
     ·show 2 * m' + (if y1.s.e = 0 then 1 else 0) < 2 * m + (if y.s.e = 0 then 1 else 0)
      rw [if_pos he]
      by_cases h0 : (mustS ws y.s [44]).e = 0
      ·have := hm2 h0; split <;> omega
      ·have : y1.s.e ≠ 0 := by rw [k2]; exact fun h3 => h0 (hfw h3).1
       rw [if_neg this]; omega
   ·have h' : (true : Bool) = false := h
    cases h'
  ·have hd : (y.p.e == 0) = false := by rw [hy.A.e]; simpa using he
   unfold itH
   simp (disch := first | assumption | exact Ne.symm (by assumption) | omega) only [hFb, hd, ↓ZD, ZW, simprocAttr]
   refine stp_call_guard (vs := [.pointer (some ⟨b, 0, none⟩), .string (bs (endOf op))]) (by simp (disch := first | assumption | exact Ne.symm (by assumption) | omega) only [↓ZD, ZW, simprocAttr]) (fun h => ?_) (fun h => ?_)
   ·have h' : (false : Bool) = true := h.1
    cases h'
   ·unfold skp
    simp (disch := first | assumption | exact Ne.symm (by assumption) | omega) only [↓ZD, ZW, simprocAttr]
    rcases hR with ⟨hi, -, -⟩ | ⟨-, -, hR⟩
    ·rw [isS_err he] at hi; cases hi
    ·obtain ⟨rfl, rfl⟩ := hR he
     exact ⟨y, hy, rfl, fun h0 => absurd h0 he, by omega, rfl⟩
end Go.Proofs.YtkbhinfpndnnfaaDoor
namespace Go.Proofs.YtkbhinfpndnnfaaDoor
open Go Go.Eng
set_option maxHeartbeats 1000000
set_option linter.unusedSimpArgs false
set_option linter.unusedVariables false
set_option maxRecDepth 20000
theorem slot_ne (t : Str) : (!(t == [112, 114, 105, 110, 99, 105, 112, 97, 108]) && !(t == [114, 101, 115, 111, 117, 114, 99, 101])) = !decide (t ∈ slotL) := by
 rw [Bool.eq_iff_iff]; simp [slotL]
theorem it_nil {F : Base} {b bo : Nat} {p : St} (hg : Good p) : ItOk F b bo ⟨p, p, [], [], [], .slice none 0 0, .slice none 0 0, [], [], []⟩ :=
 ⟨Agr.rfl', hg, .nil, fun c h => (by cases h), .nil, fun s h => (by cases h), fun _ => ⟨rfl, fun i c t h => by simp at h⟩, fun e h => (by cases h), fun e h => (by cases h), fun e h => (by cases h), fun e h => (by cases h), fun e h => (by cases h), fun e h => (by cases h), Wk.nil, Nat.le_refl _⟩
set_option maxHeartbeats 2000000 in
theorem primary_prs (F : Base) (hMx : HasMx F) {ws : Ws} (hws : WsOk ws) {l : Value} (hW : HasW F ws l) (N : Nat) (h1 : ∀ n ≤ N, Prs F l 16 (G ws n .expr)) : Prs F l 66 (G ws (N + 1) .prim) := by
 intro F' hFF b p s x s' hFb hA hg hR
 have hW := hW.mono hFF
 have hMx := hMx.mono hFF
 refine Does.fin (does_of_svc (args := [.pointer (some ⟨b, 0, none⟩)]) mixed Tryd.func66 low66 (Nat.le_of_ble_eq_true rfl) fun w0 hw0 => ?_)
 have hlen := hW.len
 simp only [*, fu66, ↓ZD, ZW, RO, simprocAttr]
 refine NewB.n ?_
 rintro b1 ⟨_, _, _⟩ hF1
 simp only [*, ↓ZD, ZW, RO, simprocAttr]
 refine NewB.n ?_
 rintro b2 ⟨_, _, _, _, _⟩ hF2
 simp only [*, ↓ZD, ZW, RO, simprocAttr]
 refine CallE.pureH (word_pure (b := b) (p := p) _ (hW.mono le_up) (by simp [rdObj, lk, *])) ?_
 simp only [*, wdV, ↓ZD, ZW, RO, simprocAttr]
 refine NewB.n ?_
 rintro b3 ⟨_, _, _, _, _, _, _⟩ hF3
 simp only [*, wdV, ↓ZD, ZW, RO, simprocAttr]
 by_cases he0 : s.e = 0
 ·obtain rfl := hA.ok he0
  have hd : (p.e != 0) = false := by simpa using he0
  rw [G_succ, if_pos he0] at hR
  simp only [stepG] at hR
  unfold primG wk wtx wn at hR
  have hw1 : ((wdAt ws p.p).1.1 : Int) ≠ 0 → IntKind.i64.wrap (p.p + 1) = p.p + 1 := fun h => by have := in_range (ws := ws) (p := p.p) (by omega); rw [wrap_i64]; omega
  simp only [*, ↓ZD, ZW, RO, simprocAttr]
  refine ⟨fun h2 => ?_, fun h2 => ?_⟩
  ·have hk := beq_iff_eq.1 h2
   rw [if_pos hk] at hR
   simp only [Option.some.injEq, Prod.mk.injEq] at hR
   obtain ⟨rfl, rfl⟩ := hR
   have hw1 := hw1 (by omega)
   refine CallE.pure (lit_pure F' ⟨2, false, (wdAt ws p.p).1.2.2, [], [], []⟩) ?_
   simp only [*, xcells, ↓ZD, ZW, RO, simprocAttr]
   exact PFin.m (cs := xcells 1 ⟨2, false, (wdAt ws p.p).1.2.2, [], [], []⟩ (.slice none 0 0) (.slice none 0 0) [] (.slice none 0 0) (.slice none 0 0)) [] (Agr.rfl' (s := adv p)) (by simp [adv, *]) ⟨rfl, rfl, rfl, rfl⟩ (fun _ => repP_leaf (i64_lit rfl) (i64_lit rfl) (wdAt_ok hws p.p).2.1) trivial Wk.nil all_nil
  rw [if_neg (beq_eq_false_iff_ne.1 h2)] at hR
  refine ⟨fun h3 => ?_, fun h3 => ?_⟩
  ·have hk := beq_iff_eq.1 h3
   rw [if_pos hk] at hR
   simp only [Option.some.injEq, Prod.mk.injEq] at hR
   obtain ⟨rfl, rfl⟩ := hR
   have hw1 := hw1 (by omega)
   refine CallE.pure (lit_pure F' ⟨3, false, 0, (wdAt ws p.p).1.2.1, [], []⟩) ?_
   simp only [*, xcells, ↓ZD, ZW, RO, simprocAttr]
   exact PFin.m (cs := xcells 1 ⟨3, false, 0, (wdAt ws p.p).1.2.1, [], []⟩ (.slice none 0 0) (.slice none 0 0) [] (.slice none 0 0) (.slice none 0 0)) [] (Agr.rfl' (s := adv p)) (by simp [adv, *]) ⟨rfl, rfl, rfl, rfl⟩ (fun _ => repP_leaf (i64_lit rfl) (i64_lit rfl) (i64_lit rfl)) trivial Wk.nil all_nil
  rw [if_neg (beq_eq_false_iff_ne.1 h3)] at hR
  refine ⟨fun h4 => ?_, fun h4 => ?_⟩
  ·have hk := beq_iff_eq.1 h4
   rw [if_pos hk] at hR
   have hw1 := hw1 (by omega)
   have hsb := slot_ne (wdAt ws p.p).1.2.1
   by_cases hm : (wdAt ws p.p).1.2.1 ∈ slotL
   ·rw [if_pos hm] at hR
    simp only [Option.some.injEq, Prod.mk.injEq] at hR
    obtain ⟨rfl, rfl⟩ := hR
    rw [decide_eq_true hm] at hsb
    simp only [*, ↓ZD, ZW, RO, simprocAttr]
    exact PFin.m (cs := xcells 3 lv0 (.slice none 0 0) (.slice none 0 0) (wdAt ws p.p).1.2.1 (.slice none 0 0) (.slice none 0 0)) [] (Agr.rfl' (s := adv p)) (by simp [adv, *]) ⟨rfl, rfl, rfl, rfl⟩ (fun _ => repP_leaf (i64_lit rfl) (i64_lit rfl) (i64_lit rfl)) trivial Wk.nil all_nil
   ·rw [if_neg hm] at hR
    simp only [Option.some.injEq, Prod.mk.injEq] at hR
    obtain ⟨rfl, rfl⟩ := hR
    rw [decide_eq_false hm] at hsb
    clear hw1
    simp only [*, ↓ZD, ZW, RO, simprocAttr]
    refine CallE.rdq (fail_q hW p 10) rfl (by simp only [*, ↓ZD, ZW, RO, simprocAttr]) ?_
    simp only [*, ↓ZD, ZW, RO, simprocAttr]
    exact PFin.m (p := ⟨IntKind.i64.wrap ((failS ws p 10).p + 1), (failS ws p 10).deep, (failS ws p 10).e, (failS ws p 10).bad⟩) [] (.inr ⟨failS_e (by decide), rfl, rfl⟩) rfl ⟨rfl, rfl, rfl, rfl⟩ (fun h => absurd h (failS_e (by decide))) trivial Wk.nil all_nil
  rw [if_neg (beq_eq_false_iff_ne.1 h4)] at hR
  refine ⟨fun h5 => ?_, fun h5 => ?_⟩
  ·have hk := beq_iff_eq.1 h5
   rw [if_pos hk] at hR
   have hRx := Option.some.inj hR
   obtain rfl : x = (nameG ws p).1 := by rw [hRx]
   obtain rfl : s' = (nameG ws p).2 := by rw [hRx]
   clear hR hRx hw1
   refine CallG.prs (s' := (nameG ws p).2) (x := (nameG ws p).1) (fun F2 hE _ hb2 => name_does F2 (hMx.mono hE) hws (hW.mono hE) hb2 he0 hk) rfl (by simp only [*, ↓ZD, ZW, RO, simprocAttr]) ?_
   rintro p1 cs1 G1 hA1 hr1 ⟨_, _, ⟨_, _, _, _⟩, hx1, _⟩
   simp only [*, ↓ZD, ZW, RO, simprocAttr]
   exact PFin.g hA1 rfl ‹_› hr1 ‹_› ‹_›
  rw [if_neg (beq_eq_false_iff_ne.1 h5)] at hR
  refine CallE.rdq (skip_q hW Agr.rfl' [40]) rfl (by simp only [*, ↓ZD, ZW, RO, simprocAttr]) ?_
  rcases tf (isS ws p [40]) with hi | hi
  ·rw [hi, if_pos rfl] at hR
   obtain ⟨⟨x1, s1⟩, hR1, hR⟩ := map_some' hR
   simp only [Prod.mk.injEq] at hR
   obtain ⟨rfl, rfl⟩ := hR
   simp only [*, ↓ZD, ZW, RO, simprocAttr]
   refine CallE.par ((h1 N (Nat.le_refl _)).mono hFF) (Agr.rfl' (s := adv p)) hg.adv hR1 rfl (by simp only [*, ↓ZD, ZW, RO, simprocAttr]) ?_
   rintro p1 cs1 G1 hA1 hr1 ⟨_, _, ⟨_, _, _, _⟩, hx1, _⟩
   simp only [*, ↓ZD, ZW, RO, simprocAttr]
   refine NewB.n ?_
   rintro b4 ⟨_, _, _, _, _, _, _, _, _⟩ _
   simp only [*, ↓ZD, ZW, RO, simprocAttr]
   refine CallE.rdq (must_q hW p1 [41]) rfl (by simp only [*, ↓ZD, ZW, RO, simprocAttr]) ?_
   simp only [*, ↓ZD, ZW, RO, simprocAttr]
   exact PFin.g hA1.must rfl ‹_› (fun he => hr1 (must_e he)) ‹_› ‹_›
  rw [hi, if_neg (by decide)] at hR
  simp only [*, ↓ZD, ZW, RO, simprocAttr]
  clear hi
  refine CallE.rdq (skip_q hW Agr.rfl' [91]) rfl (by simp only [*, ↓ZD, ZW, RO, simprocAttr]) ?_
  rcases tf (isS ws p [91]) with hi | hi
  ·rw [hi, if_pos rfl] at hR
   simp only [*, ↓ZD, ZW, RO, simprocAttr]
   refine NewB.n ?_
   rintro b4 ⟨_, _, _, _, _, _, _, _, _⟩ hF4
   simp only [*, ↓ZD, ZW, RO, simprocAttr]
   obtain ⟨F1, hF1e⟩ : ∃ F1 : Base, F1 = rdObj F' [(b1, .cells #[.pointer (some ⟨b, 0, none⟩)] 50 (0, 0))] := ⟨_, rfl⟩
   have up1 : ∀ b o, F' b = some o → F1 b = some o := by rw [hF1e]; exact le_up
   refine CallE.does (F1 := F1) (itH l b b4 19 ⟨adv p, adv p, [], [], [], .slice none 0 0, .slice none 0 0, [], [], []⟩) [(b3, .cells #[.int .i64 (wdAt ws p.p).1.1, .string (bs (wdAt ws p.p).1.2.1), .int .i64 (wdAt ws p.p).1.2.2, .int .i64 (wdAt ws p.p).2] 46 (0, 0)), (b2, .cells zx.toArray 30 (0, 0)), (b1, .cells #[.pointer (some ⟨b, 0, none⟩)] 50 (0, 0))] (list_does F1 hws (hW.mono up1) ‹b ≠ b4› (by rw [hF1e]; simp [rdObj, lk, *]) (by rw [hF1e]; simp [rdObj, lk, *]) 19 N (fun n hn => one1 F1 (hW.mono up1) ‹b ≠ b4› (by rw [hF1e]; simp [rdObj, lk, *]) (by rw [hF1e]; simp [rdObj, lk, *]) (by rw [hF1e]; exact rdObj_hd hF1) n ((h1 n hn).mono fun b o h => up1 b o (hFF b o h))) _ (it_nil hg.adv) rfl rfl rfl he0 (by have := isS_range hi; show (0 : Int) ≤ p.p + 1; omega) hR) ?_ (by simp [itH]) (by simp) (by simp [itH, *]) ?_
   ·rw [hF1e]; exact fun _ _ h => rdObj_sub (by simp [lk, *]) h
   rintro v H' ⟨rfl, y', k1, k2, k3, k4, rfl⟩ d1 d2 d3
   have d2' := fun e he => d2 e he
   simp only [List.forall_mem_cons, List.not_mem_nil, false_implies, implies_true, and_true] at d2
   have d22 : Nb b2 (y'.Hk ++ (y'.Hn ++ y'.G)) := .of fun e he => d2.2.1 e (List.mem_cons_of_mem _ (List.mem_cons_of_mem _ he))
   have d21 : Nb b1 (y'.Hk ++ (y'.Hn ++ y'.G)) := .of fun e he => d2.2.2 e (List.mem_cons_of_mem _ (List.mem_cons_of_mem _ he))
   have off := it_off (op := 19) k1 ‹b ≠ b4›
   unfold itH
   have ok1 : oneCell y'.vk = true := by obtain ⟨_, _, h, _⟩ := k1.hk.len_le; rw [h]; rfl
   have ok2 : oneCell y'.vn = true := by obtain ⟨_, _, h, _⟩ := k1.hn.len_le; rw [h]; rfl
   have u2 : ∀ o, upd (y'.Hk ++ (y'.Hn ++ y'.G)) b2 o = y'.Hk ++ (y'.Hn ++ y'.G) := fun o => upd_nb d22
   clear d1 d2 d3 d2'
   simp only [*, ↓u2, ↓ZD, ZW, RO, simprocAttr]
   subst hF1e
   refine ⟨y'.p, xcells 19 lv0 (.slice none 0 0) (.slice none 0 0) [] y'.vk y'.vn, (b1, .cells #[.pointer (some ⟨b, 0, none⟩)] 50 (0, 0)) :: (y'.Hk ++ (y'.Hn ++ y'.G)), by rw [← k2]; exact k1.A, rfl, ⟨rfl, by unfold xcells; simp only [List.all_cons, List.all_nil, ok1, ok2]; rfl, rfl, rfl⟩, fun he => ?_, all_cons (Ne.symm ‹b ≠ b1›) (fun e he => off e (List.mem_cons_of_mem _ he)), (it_wkx k1).cb d21, by simp, by simp +contextual⟩
   rw [k3 he]
   exact (it_rep k1 (i64_lit rfl) (by rw [k2]; exact he) k4).mono fun _ _ h => rdObj_app (G := [(b1, .cells #[.pointer (some ⟨b, 0, none⟩)] 50 (0, 0))]) h
  rw [hi, if_neg (by decide)] at hR
  simp only [*, ↓ZD, ZW, RO, simprocAttr]
  clear hi
  refine CallE.rdq (skip_q hW Agr.rfl' [123]) rfl (by simp only [*, ↓ZD, ZW, RO, simprocAttr]) ?_
  rcases tf (isS ws p [123]) with hi | hi
  ·rw [hi, if_pos rfl] at hR
   simp only [*, ↓ZD, ZW, RO, simprocAttr]
   refine NewB.n ?_
   rintro b4 ⟨_, _, _, _, _, _, _, _, _⟩ hF4
   simp only [*, ↓ZD, ZW, RO, simprocAttr]
   obtain ⟨F1, hF1e⟩ : ∃ F1 : Base, F1 = rdObj F' [(b1, .cells #[.pointer (some ⟨b, 0, none⟩)] 50 (0, 0))] := ⟨_, rfl⟩
   have up1 : ∀ b o, F' b = some o → F1 b = some o := by rw [hF1e]; exact le_up
   refine CallE.does (F1 := F1) (itH l b b4 20 ⟨adv p, adv p, [], [], [], .slice none 0 0, .slice none 0 0, [], [], []⟩) [(b3, .cells #[.int .i64 (wdAt ws p.p).1.1, .string (bs (wdAt ws p.p).1.2.1), .int .i64 (wdAt ws p.p).1.2.2, .int .i64 (wdAt ws p.p).2] 46 (0, 0)), (b2, .cells zx.toArray 30 (0, 0)), (b1, .cells #[.pointer (some ⟨b, 0, none⟩)] 50 (0, 0))] (list_does F1 hws (hW.mono up1) ‹b ≠ b4› (by rw [hF1e]; simp [rdObj, lk, *]) (by rw [hF1e]; simp [rdObj, lk, *]) 20 N (fun n hn => one2 F1 hws (hW.mono up1) ‹b ≠ b4› (by rw [hF1e]; simp [rdObj, lk, *]) (by rw [hF1e]; simp [rdObj, lk, *]) (by rw [hF1e]; exact rdObj_hd hF1) n ((h1 n hn).mono fun b o h => up1 b o (hFF b o h))) _ (it_nil hg.adv) rfl rfl rfl he0 (by have := isS_range hi; show (0 : Int) ≤ p.p + 1; omega) hR) ?_ (by simp [itH]) (by simp) (by simp [itH, *]) ?_
   ·rw [hF1e]; exact fun _ _ h => rdObj_sub (by simp [lk, *]) h
   rintro v H' ⟨rfl, y', k1, k2, k3, k4, rfl⟩ d1 d2 d3
   have d2' := fun e he => d2 e he
   simp only [List.forall_mem_cons, List.not_mem_nil, false_implies, implies_true, and_true] at d2
   have d22 : Nb b2 (y'.Hk ++ (y'.Hn ++ y'.G)) := .of fun e he => d2.2.1 e (List.mem_cons_of_mem _ (List.mem_cons_of_mem _ he))
   have d21 : Nb b1 (y'.Hk ++ (y'.Hn ++ y'.G)) := .of fun e he => d2.2.2 e (List.mem_cons_of_mem _ (List.mem_cons_of_mem _ he))
   have off := it_off (op := 20) k1 ‹b ≠ b4›
   unfold itH
   have ok1 : oneCell y'.vk = true := by obtain ⟨_, _, h, _⟩ := k1.hk.len_le; rw [h]; rfl
   have ok2 : oneCell y'.vn = true := by obtain ⟨_, _, h, _⟩ := k1.hn.len_le; rw [h]; rfl
   have u2 : ∀ o, upd (y'.Hk ++ (y'.Hn ++ y'.G)) b2 o = y'.Hk ++ (y'.Hn ++ y'.G) := fun o => upd_nb d22
   clear d1 d2 d3 d2'
   simp only [*, ↓u2, ↓ZD, ZW, RO, simprocAttr]
   subst hF1e
   refine ⟨y'.p, xcells 20 lv0 (.slice none 0 0) (.slice none 0 0) [] y'.vk y'.vn, (b1, .cells #[.pointer (some ⟨b, 0, none⟩)] 50 (0, 0)) :: (y'.Hk ++ (y'.Hn ++ y'.G)), by rw [← k2]; exact k1.A, rfl, ⟨rfl, by unfold xcells; simp only [List.all_cons, List.all_nil, ok1, ok2]; rfl, rfl, rfl⟩, fun he => ?_, all_cons (Ne.symm ‹b ≠ b1›) (fun e he => off e (List.mem_cons_of_mem _ he)), (it_wkx k1).cb d21, by simp, by simp +contextual⟩
   rw [k3 he]
   exact (it_rep k1 (i64_lit rfl) (by rw [k2]; exact he) k4).mono fun _ _ h => rdObj_app (G := [(b1, .cells #[.pointer (some ⟨b, 0, none⟩)] 50 (0, 0))]) h
  rw [hi, if_neg (by decide)] at hR
  simp only [*, ↓ZD, ZW, RO, simprocAttr]
  clear hi
  simp only [Option.some.injEq, Prod.mk.injEq] at hR
  obtain ⟨rfl, rfl⟩ := hR
  refine CallE.rdq (fail_q hW p 10) rfl (by simp only [*, ↓ZD, ZW, RO, simprocAttr]) ?_
  simp only [*, ↓ZD, ZW, RO, simprocAttr]
  exact PFin.m [] Agr.rfl' rfl ⟨rfl, rfl, rfl, rfl⟩ (fun h => absurd h (failS_e (by decide))) trivial Wk.nil all_nil
 ·have hd : (p.e != 0) = true := by rw [hA.e]; simpa using he0
  obtain ⟨rfl, rfl⟩ := G_err he0 _ _ hR
  simp only [*, ↓ZD, ZW, RO, simprocAttr]
  exact PFin.m [] hA rfl ⟨rfl, rfl, rfl, rfl⟩ (fun h => absurd h he0) trivial Wk.nil all_nil
end Go.Proofs.YtkbhinfpndnnfaaDoor
namespace Go.Proofs.YtkbhinfpndnnfaaDoor
open Go Go.Eng
set_option maxHeartbeats 1000000
set_option linter.unusedSimpArgs false
set_option linter.unusedVariables false
set_option maxRecDepth 20000
theorem Prs.weak {F : Base} {l : Value} {f : Nat} {R R' : St → Option (Ex' × St)} (h : Prs F l f R) (hR : ∀ s y, R' s = some y → R s = some y) : Prs F l f R' :=
 fun F' hF b p s x s' hFb hA hg h' => h F' hF b p s x s' hFb hA hg (hR s (x, s') h')
theorem prs_none (F : Base) (l : Value) (f : Nat) : Prs F l f (fun _ => none) := fun _ _ _ _ _ _ _ _ _ _ h => by cases h
theorem rel_weak {ws : Ws} {n : Nat} {s : St} {y : Ex' × St} (h : G ws (n + 1) .rel s = some y) : relG ws (G ws n) s = some y := by
 rw [G_succ] at h
 split at h
 ·exact h
 ·rename_i he
  unfold relG
  rw [G_at he, Option.bind_some]
  simp only [isS_err he, Bool.false_eq_true, if_false]
  exact h
structure AllP (F : Base) (ws : Ws) (l : Value) (n : Nat) : Prop where
 ex : Prs F l 16 (G ws n .expr)
 un : Prs F l 63 (G ws n .unary)
 pr : Prs F l 66 (G ws n .prim)
 me : Prs F l 65 (G ws n .member)
 l3 : Prs F l 62 (G ws n (.lev 3))
 l2 : Prs F l 61 (G ws n (.lev 2))
 re : Prs F l 60 (G ws n .rel)
 l1 : Prs F l 54 (G ws n (.lev 1))
 l0 : Prs F l 46 (G ws n (.lev 0))
theorem all0 (F : Base) (hMx : HasMx F) {ws : Ws} (hws : WsOk ws) {l : Value} (hW : HasW F ws l) : AllP F ws l 0 := by
 have dn : ∀ {nt : NT} {f : Nat}, Prs F l f (G ws 1 nt) → Prs F l f (G ws 0 nt) := fun h => h.weak fun s y hy => G_mono1 ws 0 _ _ _ hy
 have ex : Prs F l 16 (G ws 0 .expr) := (expr_prs F hW (fun _ => none) (fun _ _ h => by cases h) (prs_none F l _)).weak fun s y hy => by
  obtain ⟨he, rfl⟩ := G_zero hy; exact if_neg he
 have un : Prs F l 63 (G ws 0 .unary) := (unary_prs F hW (fun _ => none) (fun _ _ h => by cases h) (prs_none F l _)).weak fun s y hy => by
  obtain ⟨he, rfl⟩ := G_zero hy; exact if_neg he
 have z : ∀ {P : Nat → Prop}, P 0 → ∀ n ≤ 0, P n := fun h n hn => Nat.le_zero.1 hn ▸ h
 have pr := dn (primary_prs F hMx hws hW 0 (z ex))
 have me := dn (member_prs F hW 0 (z pr) (z ex))
 have l3 := dn (product_prs F hW 0 (z un))
 have l2 := dn (sum_prs F hW 0 (z l3))
 have re := dn ((rel_prs F hws hW 0 l2).weak fun s y hy => rel_weak hy)
 have l1 := dn (and_prs F hW 0 (z re))
 have l0 := dn (or_prs F hW 0 (z l1))
 exact ⟨ex, un, pr, me, l3, l2, re, l1, l0⟩
theorem allP (F : Base) (hMx : HasMx F) {ws : Ws} (hws : WsOk ws) {l : Value} (hW : HasW F ws l) : ∀ n, AllP F ws l n := by
 intro n
 induction n using Nat.strongRecOn with
 | _ n ih =>
  cases n with
  | zero => exact all0 F hMx hws hW
  | succ k =>
   have le : ∀ m ≤ k, AllP F ws l m := fun m hm => ih m (by omega)
   have hk := le k (Nat.le_refl _)
   refine ⟨?_, ?_, ?_, ?_, ?_, ?_, ?_, ?_, ?_⟩
   ·exact (expr_prs F hW (choiceG ws (G ws k)) (fun s y h => goes_choice (G_goes ws k) h) (choice_prs F hW k hk.ex hk.l0)).weak fun s y hy => hy
   ·exact (unary_prs F hW (prefG ws (G ws k)) (fun s y h => goes_pref (G_goes ws k) h) (prefix_prs F hW k hk.un hk.me)).weak fun s y hy => hy
   ·exact primary_prs F hMx hws hW k fun m hm => (le m hm).ex
   ·exact member_prs F hW k (fun m hm => (le m hm).pr) fun m hm => (le m hm).ex
   ·exact product_prs F hW k fun m hm => (le m hm).un
   ·exact sum_prs F hW k fun m hm => (le m hm).l3
   ·exact (rel_prs F hws hW k hk.l2).weak fun s y hy => rel_weak hy
   ·exact and_prs F hW k fun m hm => (le m hm).re
   ·exact or_prs F hW k fun m hm => (le m hm).l1
def st0 (i : Int) : St := ⟨i, 0, 0, 0⟩
theorem st0_good (i : Int) : Good (st0 i) := fun _ => ⟨Int.le_refl _, by show (0 : Int) ≤ 50; decide⟩
def readS (ws : Ws) (i : Int) : Ex' × Int × Int × Int := if (runG ws .expr (st0 i)).2.e = 0 then ((runG ws .expr (st0 i)).1, (runG ws .expr (st0 i)).2.p, 0, 0) else (nilX, 0, (runG ws .expr (st0 i)).2.e, (runG ws .expr (st0 i)).2.bad)
def ReadP (F : Base) (R : Ex' × Int × Int × Int) (r : Value) (H' : Hp) : Prop := ∃ cs, r = .tuple #[.agg cs.toArray, .int .i64 R.2.1, .int .i64 R.2.2.1, .int .i64 R.2.2.2] ∧ Ok12 cs ∧ RepP (rdObj F H') cs R.1 ∧ Wk H'
theorem read_does (F : Base) (hMx : HasMx F) {ws : Ws} (hws : WsOk ws) {l : Value} (hW : HasW F ws l) (i : Int) : Does Tryd.prog F 12 #[l, .int .i64 i] [] (ReadP F (readS ws i)) := by
 obtain ⟨bw, cap, sp, T, fz, rfl, hFw, -⟩ := id hW
 refine Does.shr (K := fun r H' => ∃ cs Hx, r = .tuple #[.agg cs.toArray, .int .i64 (readS ws i).2.1, .int .i64 (readS ws i).2.2.1, .int .i64 (readS ws i).2.2.2] ∧ Ok12 cs ∧ RepP (rdObj F Hx) cs (readS ws i).1 ∧ Wk Hx ∧ ∀ e ∈ Hx, e ∈ H') ?_ fun r H' ⟨cs, Hx, h1, h2, h3, h4, h5⟩ => ⟨Hx, h5, cs, h1, h2, h3, h4⟩
 refine does_of_svc (args := [.slice (some ⟨bw, 0, none⟩) ws.length cap, .int .i64 i]) mixed Tryd.func12 low12 (Nat.le_of_ble_eq_true rfl) fun w0 hw0 => ?_
 obtain ⟨n, hn⟩ := runG_ex ws .expr (st0 i)
 unfold readS
 generalize runG ws .expr (st0 i) = y at *
 obtain ⟨x, s'⟩ := y
 simp only [*, fu12, ↓ZD, ZW, RO, simprocAttr]
 refine NewB.n ?_
 rintro b1 _ _
 simp only [*, ↓ZD, ZW, RO, simprocAttr]
 refine NewB.n ?_
 rintro b ⟨_, _, _⟩ _
 simp only [*, ↓ZD, ZW, RO, simprocAttr]
 refine CallE.par (s := st0 i) (p := st0 i) (allP F hMx hws hW n).ex Agr.rfl' (st0_good i) hn (by simp [st0]) (by simp only [*, ↓ZD, ZW, RO, simprocAttr]) ?_
 rintro p1 cs1 G1 hA1 hr1 ⟨_, _, ⟨_, _⟩, _, _⟩
 simp only [*, ↓ZD, ZW, RO, simprocAttr]
 refine NewB.n ?_
 rintro b3 ⟨_, _, _, _, _⟩ _
 simp only [*, ↓ZD, ZW, RO, simprocAttr]
 refine ⟨fun h => ?_, fun h => ?_⟩
 ·have he : s'.e ≠ 0 := by rw [← hA1.e]; simpa using h
  rw [if_neg he, ← hA1.e, ← hA1.bad]
  refine TreeL.open ?_
  simp only [*, ↓ZD, ZW, RO, simprocAttr]
  repeat' (first | exact ⟨xcells 0 lv0 (.slice none 0 0) (.slice none 0 0) [] (.slice none 0 0) (.slice none 0 0), [], rfl, ⟨rfl, rfl, rfl, rfl⟩, repP_nil, Wk.nil, all_nil⟩ | apply And.intro)
 ·have he : s'.e = 0 := by rw [← hA1.e]; simpa using h
  obtain rfl := hA1.ok he
  rw [if_pos he]
  refine TreeL.open ?_
  simp only [*, ↓ZD, ZW, RO, simprocAttr]
  repeat' (first | exact ⟨cs1, G1, rfl, ‹_›, hr1 he, ‹_›, by simp +contextual⟩ | apply And.intro)
def uidR (ws : Ws) (i : Int) : (Str × Str) × Int × Int × Int := if (uidS ws (st0 i)).2.e = 0 then ((uidS ws (st0 i)).1, (uidS ws (st0 i)).2.p, 0, 0) else (([], []), 0, (uidS ws (st0 i)).2.e, (uidS ws (st0 i)).2.bad)
theorem uid_pure (F : Base) {ws : Ws} (hws : WsOk ws) {l : Value} (hW : HasW F ws l) (i : Int) : PureV Tryd.prog F 11 #[l, .int .i64 i] (.tuple #[.agg #[.string (bs (uidR ws i).1.1), .string (bs (uidR ws i).1.2)], .int .i64 (uidR ws i).2.1, .int .i64 (uidR ws i).2.2.1, .int .i64 (uidR ws i).2.2.2]) := by
 obtain ⟨bw, cap, sp, T, fz, rfl, hFw, -⟩ := id hW
 refine pureV_of_svc (args := [.slice (some ⟨bw, 0, none⟩) ws.length cap, .int .i64 i]) mixed Tryd.func11 low11 (Nat.le_of_ble_eq_true rfl) fun w0 => ?_
 unfold uidR
 simp only [*, fu11, ↓ZD, ZW, RO, simprocAttr]
 refine NewB.n ?_
 rintro b1 _ _
 simp only [*, ↓ZD, ZW, RO, simprocAttr]
 refine NewB.n ?_
 rintro b ⟨_, _, _⟩ _
 simp only [*, ↓ZD, ZW, RO, simprocAttr]
 refine CallE.rdq (p := st0 i) (uid_q hws hW (st0 i)) (by simp [st0]) (by simp only [*, ↓ZD, ZW, RO, simprocAttr]) ?_
 simp only [*, ↓ZD, ZW, RO, simprocAttr]
 refine NewB.n ?_
 rintro b3 ⟨_, _, _, _, _⟩ _
 simp only [*, ↓ZD, ZW, RO, simprocAttr]
 refine ⟨fun h => ?_, fun h => ?_⟩
 ·have he : (uidS ws (st0 i)).2.e ≠ 0 := by simpa using h
  rw [if_neg he]
  refine TreeL.open ?_
  simp only [*, ↓ZD, ZW, RO, simprocAttr]
 ·have he : (uidS ws (st0 i)).2.e = 0 := by simpa using h
  rw [if_pos he]
  refine TreeL.open ?_
  simp only [*, ↓ZD, ZW, RO, simprocAttr]
end Go.Proofs.YtkbhinfpndnnfaaDoor
