/- Layer 10: rows, told. -/
import Derived.Test.YtoelfmmfjebabaaDoorPnN
namespace Go.Proofs.YtoelfmmfjebabaaDoor
open Go Go.Eng
open Int renaming reduceEq → Za, reduceToNat → Zm, reduceLE → Zn, reduceLT → Zo, reduceAdd → Zp, reduceSub → Zq, reduceNeg → Zr, reducePow → Zt, reduceNegSucc → Zv
open UInt8 renaming reduceOfNat → Zb
open List renaming mapM_cons → Zc, mapM_nil → Zd
open Nat renaming reduceAdd → Ze, reduceMul → Zf, reduceMod → Zg, reduceDiv → Zh, reduceEqDiff → Zi, reduceBEq → Zj, reduceLeDiff → Zk, reduceSub → Zl, reducePow → Zs, reduceLT → Zu
set_option linter.unusedSimpArgs false
set_option linter.unusedVariables false
set_option maxRecDepth 20000

theorem HLe_app {A : Hp} {b : Nat} {o : Obj} (h : ∀ e ∈ A, lk A e.1 = some e.2) (hd : ∀ e ∈ A, e.1 ≠ b) : HLe A ((b, o) :: A) := by
  have key : ∀ B : Hp, (∀ e ∈ B, lk ((b, o) :: A) e.1 = some e.2) → HLe B ((b, o) :: A) := fun B => by
    induction B with
    | nil => intro _; trivial
    | cons e r ih =>
      obtain ⟨b', o'⟩ := e
      intro h
      exact ⟨h _ List.mem_cons_self, ih fun e he => h e (List.mem_cons_of_mem _ he)⟩
  refine key A fun e he => ?_
  simp only [lk]
  rw [if_neg fun x => hd e he x.symm]
  exact h e he
theorem okL_all' : ∀ l : List Ex', okL l = l.all okX
  | [] => by simp [okL]
  | x :: l => by rw [okL, okL_all' l, List.all_cons]
/-- What tells what stands ahead of one. -/
def AW (F : Base) (fv : Value) (b : Nat) (A : Nat → Str) (n : Nat) : Prop := ∃ f fi ca, fv = .func (.func f) fi ca ∧ callable Tryd.prog f = true ∧ ∀ F' : Base, (∀ b o, F b = some o → F' b = some o) → ∀ i < n, ∀ s bad, s.length + (A i).length ≤ 100000000000000 →
  ∀ H0, Pst F' b s bad H0 → Does Tryd.prog F' f (fi ++ [Value.int .i64 i].toArray ++ ca) H0 (fun r H' => r = .tuple #[] ∧ Pst F' b (s ++ A i) bad H')
theorem CallEF.wr {X : List Nat} {F : Base} {w0 : World} {fv : Value} {H : Hp} {K : Value → Hp → Prop} {b i n : Nat} {A : Nat → Str} {s0 : Str} {bad0 : Bool} (Hr H0 : Hp) (h : AW F fv b A n)
    (hi : i < n) (hl : s0.length + (A i).length ≤ 100000000000000) (hp : Pst F b s0 bad0 H0) (h0 : ∀ e ∈ H0, e ∈ H) (hr : ∀ e ∈ Hr, e ∈ H) (hd : ∀ e' ∈ Hr, ∀ e ∈ H0, e.1 ≠ e'.1)
    (hk : ∀ H', Pst F b (s0 ++ A i) bad0 H' → (∀ e' ∈ Hr, ∀ e ∈ H', e.1 ≠ e'.1) → K (.tuple #[]) (Hr ++ H')) : @CallEF Tryd.prog X F w0 fv [.int .i64 i] H ⟨K⟩ := by
  obtain ⟨f, fi, ca, rfl, hc, hw⟩ := h
  exact CallEF.does H0 Hr hc (hw (rdObj F Hr) le_up i hi s0 bad0 hl H0 (hp.up hd)) (fun _ _ h => h) h0 hr hd fun v H' ⟨hv, hp'⟩ _ h2 _ => by subst hv; exact hk H' hp'.down h2
theorem row_wr (F : Base) (b : Nat) (s : Str) (bad : Bool) {fv : Value} {A : Nat → Str} {a1 : Option Addr} {c1 : Nat} {kids : List Ex'} {g1 : Nat → List Value} (hA : AW F fv b A kids.length) (hc1 : kids.length ≤ c1) (hl1 : kids.length ≤ 9223372036854775807)
    (h1 : ∀ (i : Nat) (t : Ex'), kids[i]? = some t → Cl F a1 12 i (g1 i)) (r1 : ∀ (i : Nat) (t : Ex'), kids[i]? = some t → RepX F (g1 i) t) (hw : ∀ (i : Nat) (t : Ex'), kids[i]? = some t → XW F t (g1 i))
    (hl : s.length + (rowT A 0 (ptL kids)).length ≤ 100000000000000) :
    Wr F 31 [.pointer (some ⟨b, 0, none⟩), .slice a1 kids.length c1, fv] b s bad (s ++ rowT A 0 (ptL kids)) (bad || !okL kids) (.tuple #[]) := by
  refine Wr.of_svc mixed Tryd.func31 low31 (Nat.le_of_ble_eq_true rfl) fun H0 hp w0 hw0 => ?_
  simp (disch := first | assumption | exact Ne.symm (by assumption) | omega) only [fu31, ↓ZD, ZU, ZR, Za, Zb, Zc, Zd, Ze, Zf, Zg, Zh, Zi, Zj, Zk, Zl, Zm, Zn, Zo, Zp, Zq, Zr, reduceIte, reduceCtorEq, Zs, Zt, Zu, Zv]
  refine LoopL.inv (α := Nat × Hp) (fun x => x.1 ≤ kids.length ∧ Pst F b (s ++ rowT A 0 ((ptL kids).take x.1)) (bad || !(kids.take x.1).all okX) x.2)
    (fun x => [(0, some (.pointer (some ⟨b, 0, none⟩))), (2, some fv), (8, some (.slice a1 kids.length c1)), (9, some (.int .i64 kids.length)), (10, some (.int .i64 x.1))])
    (fun x => x.2) (fun x => kids.length - x.1) (0, H0) ⟨Nat.zero_le _, by simpa [rowT] using hp⟩ (by (simp only [Le_nil, Le_cons]; simp (disch := first | assumption | exact Ne.symm (by assumption) | omega) only [↓ZD, ZU, ZR, Za, Zb, Zc, Zd, Ze, Zf, Zg, Zh, Zi, Zj, Zk, Zl, Zm, Zn, Zo, Zp, Zq, Zr, reduceIte, reduceCtorEq, Zs, Zt, Zu, Zv]; try trivial)) hp.hle ?_
  rintro ⟨i, H⟩ ⟨hi, hpi⟩
  simp only at hi hpi ⊢
  by_cases hlt : i < kids.length
  · have hd : decide ((i : Int) < (kids.length : Int)) = true := by simp; omega
    have gx := getX hlt
    have hx := hw i _ gx
    have hle := rowT_take_le A (ptL kids) (i + 1)
    have e2 := rowT_take A (ptL_get gx)
    rw [e2] at hle
    simp only [List.length_append] at hle
    have e3 : (bad || !(kids.take (i + 1)).all okX) = (bad || !(kids.take i).all okX || !okX (kids.getD i nilX)) := by
      rw [take_snoc gx, List.all_append]; simp
      cases bad <;> simp
    obtain ⟨q1, q2, q3, q4, q5, q6, q7, q8, q9, q10, q11, q12, q13, q14, q15, q16, q17, q18, q19, q20, e1⟩ := (r1 i _ gx).form
    obtain ⟨ba, oa, rfl, hla⟩ := (h1 i _ gx).ldn
    rw [e1] at hx hla
    have hsl : (s ++ rowT A 0 ((ptL kids).take i)).length + ((if 0 < i then ([44, 32] : Str) else []).length + ((A i).length + (pt (kids.getD i nilX)).length)) ≤ 100000000000000 := by
      simp only [List.length_append]; omega
    generalize hS : s ++ rowT A 0 ((ptL kids).take i) = S at hpi hsl
    generalize hB : (bad || !(kids.take i).all okX) = B at hpi e3
    by_cases h0 : 0 < i
    · have hz : decide ((0 : Int) < (i : Int)) = true := by simp; omega
      rw [if_pos h0] at hsl
      simp only [List.length_cons, List.length_nil] at hsl
      simp (disch := first | assumption | exact Ne.symm (by assumption) | omega) only [hd, hz, Nat.mul_one, ↓ZD, ZU, ZR, Za, Zb, Zc, Zd, Ze, Zf, Zg, Zh, Zi, Zj, Zk, Zl, Zm, Zn, Zo, Zp, Zq, Zr, reduceIte, reduceCtorEq, Zs, Zt, Zu, Zv]
      refine conj.of (by omega) ?_
      simp (disch := first | assumption | exact Ne.symm (by assumption) | omega) only [hd, hz, Int.toNat_natCast, ↓hla, ↓ZD, ZU, ZR, Za, Zb, Zc, Zd, Ze, Zf, Zg, Zh, Zi, Zj, Zk, Zl, Zm, Zn, Zo, Zp, Zq, Zr, reduceIte, reduceCtorEq, Zs, Zt, Zu, Zv]
      refine NewB.of fun b7 hb7 hF7 => ?_
      have hu : ∀ o, upd H b7 o = H := fun o => upd_new hb7
      simp (disch := first | assumption | exact Ne.symm (by assumption) | omega) only [hd, hz, hF7, hu, ↓ZD, ZU, ZR, Za, Zb, Zc, Zd, Ze, Zf, Zg, Zh, Zi, Zj, Zk, Zl, Zm, Zn, Zo, Zp, Zq, Zr, reduceIte, reduceCtorEq, Zs, Zt, Zu, Zv]
      refine NewB.of fun b5 hb5 hF5 => ?_
      simp only [List.forall_mem_cons, List.mem_cons, forall_eq_or_imp] at hb5
      simp (disch := first | assumption | exact Ne.symm (by assumption) | omega) only [hF7, hF5, ↓ZD, ZU, ZR, Za, Zb, Zc, Zd, Ze, Zf, Zg, Zh, Zi, Zj, Zk, Zl, Zm, Zn, Zo, Zp, Zq, Zr, reduceIte, reduceCtorEq, Zs, Zt, Zu, Zv]
      refine CallE.wr [(b5, .cells #[.string (bs [44, 32])] 9 (0, 0)), (b7, .cells #[Value.int IntKind.i64 q1, Value.int IntKind.i64 q2, Value.bool q3, Value.int IntKind.i64 q4, Value.string (bs q5), Value.string (bs q6), Value.string (bs q7), Value.slice q8 q9 q10, Value.slice q11 q12 q13, Value.string (bs q14), Value.slice q15 q16 q17, Value.slice q18 q19 q20] 30 (0, 0))] H (put1 _ b b5 9 S [44, 32] _ (by simp [rdObj, hF5, lk]) (by simp only [List.length_cons, List.length_nil]; omega)) hpi (by simp +contextual) (by simp +contextual) (by simp only [List.forall_mem_cons, List.not_mem_nil, false_implies, implies_true, and_true]; exact ⟨hb5.2, hb7⟩) ?_
      intro H2 hp2 hd2
      simp only [List.forall_mem_cons, List.not_mem_nil, false_implies, implies_true, and_true] at hd2
      simp (disch := first | assumption | exact Ne.symm (by assumption) | omega) only [↓ZD, ZU, ZR, Za, Zb, Zc, Zd, Ze, Zf, Zg, Zh, Zi, Zj, Zk, Zl, Zm, Zn, Zo, Zp, Zq, Zr, reduceIte, reduceCtorEq, Zs, Zt, Zu, Zv]
      refine CallEF.wr [(b7, .cells #[Value.int IntKind.i64 q1, Value.int IntKind.i64 q2, Value.bool q3, Value.int IntKind.i64 q4, Value.string (bs q5), Value.string (bs q6), Value.string (bs q7), Value.slice q8 q9 q10, Value.slice q11 q12 q13, Value.string (bs q14), Value.slice q15 q16 q17, Value.slice q18 q19 q20] 30 (0, 0))] H2 hA hlt (by (try simp only [List.length_append, List.length_cons, List.length_nil]); omega) hp2 (by simp +contextual) (by simp +contextual) (by simpa using hd2.2) ?_
      intro H3 hp3 hd3
      simp only [List.forall_mem_cons, List.not_mem_nil, false_implies, implies_true, and_true] at hd3
      simp (disch := first | assumption | exact Ne.symm (by assumption) | omega) only [hF7, ↓ZD, ZU, ZR, Za, Zb, Zc, Zd, Ze, Zf, Zg, Zh, Zi, Zj, Zk, Zl, Zm, Zn, Zo, Zp, Zq, Zr, reduceIte, reduceCtorEq, Zs, Zt, Zu, Zv]
      refine CallE.wr [(b7, .cells #[Value.int IntKind.i64 q1, Value.int IntKind.i64 q2, Value.bool q3, Value.int IntKind.i64 q4, Value.string (bs q5), Value.string (bs q6), Value.string (bs q7), Value.slice q8 q9 q10, Value.slice q11 q12 q13, Value.string (bs q14), Value.slice q15 q16 q17, Value.slice q18 q19 q20] 30 (0, 0))] H3 (hx _ le_up b _ _ (by simp only [List.length_append, List.length_cons, List.length_nil]; omega)) hp3 (by simp +contextual) (by simp +contextual) (by simpa using hd3) ?_
      intro H4 hp4 hd4
      simp only [List.forall_mem_cons, List.not_mem_nil, false_implies, implies_true, and_true] at hd4
      simp (disch := first | assumption | exact Ne.symm (by assumption) | omega) only [↓ZD, ZU, ZR, Za, Zb, Zc, Zd, Ze, Zf, Zg, Zh, Zi, Zj, Zk, Zl, Zm, Zn, Zo, Zp, Zq, Zr, reduceIte, reduceCtorEq, Zs, Zt, Zu, Zv]
      refine invK.on (i + 1, H4) ⟨by show i + 1 ≤ _; omega, by rw [e2, ← List.append_assoc, hS, e3, if_pos h0]; simpa only [List.append_assoc] using hp4⟩ (by show _ - (i + 1) < _ - i; omega) ?_ (HLe_app hp4.lk hd4)
      simp only [Le_nil, Le_cons]
      simp (disch := first | assumption | exact Ne.symm (by assumption) | omega) only [↓ZD, ZU, ZR, Za, Zb, Zc, Zd, Ze, Zf, Zg, Zh, Zi, Zj, Zk, Zl, Zm, Zn, Zo, Zp, Zq, Zr, reduceIte, reduceCtorEq, Zs, Zt, Zu, Zv]
      first | done | rfl
    · have hz : decide ((0 : Int) < (i : Int)) = false := by simp; omega
      rw [if_neg h0] at hsl
      simp only [List.length_cons, List.length_nil] at hsl
      simp (disch := first | assumption | exact Ne.symm (by assumption) | omega) only [hd, hz, Nat.mul_one, ↓ZD, ZU, ZR, Za, Zb, Zc, Zd, Ze, Zf, Zg, Zh, Zi, Zj, Zk, Zl, Zm, Zn, Zo, Zp, Zq, Zr, reduceIte, reduceCtorEq, Zs, Zt, Zu, Zv]
      refine conj.of (by omega) ?_
      simp (disch := first | assumption | exact Ne.symm (by assumption) | omega) only [hd, hz, Int.toNat_natCast, ↓hla, ↓ZD, ZU, ZR, Za, Zb, Zc, Zd, Ze, Zf, Zg, Zh, Zi, Zj, Zk, Zl, Zm, Zn, Zo, Zp, Zq, Zr, reduceIte, reduceCtorEq, Zs, Zt, Zu, Zv]
      refine NewB.of fun b7 hb7 hF7 => ?_
      have hu : ∀ o, upd H b7 o = H := fun o => upd_new hb7
      simp (disch := first | assumption | exact Ne.symm (by assumption) | omega) only [hd, hz, hF7, hu, ↓ZD, ZU, ZR, Za, Zb, Zc, Zd, Ze, Zf, Zg, Zh, Zi, Zj, Zk, Zl, Zm, Zn, Zo, Zp, Zq, Zr, reduceIte, reduceCtorEq, Zs, Zt, Zu, Zv]
      refine CallEF.wr [(b7, .cells #[Value.int IntKind.i64 q1, Value.int IntKind.i64 q2, Value.bool q3, Value.int IntKind.i64 q4, Value.string (bs q5), Value.string (bs q6), Value.string (bs q7), Value.slice q8 q9 q10, Value.slice q11 q12 q13, Value.string (bs q14), Value.slice q15 q16 q17, Value.slice q18 q19 q20] 30 (0, 0))] H hA hlt (by (try simp only [List.length_append, List.length_cons, List.length_nil]); omega) hpi (by simp +contextual) (by simp +contextual) (by simpa using hb7) ?_
      intro H3 hp3 hd3
      simp only [List.forall_mem_cons, List.not_mem_nil, false_implies, implies_true, and_true] at hd3
      simp (disch := first | assumption | exact Ne.symm (by assumption) | omega) only [hF7, ↓ZD, ZU, ZR, Za, Zb, Zc, Zd, Ze, Zf, Zg, Zh, Zi, Zj, Zk, Zl, Zm, Zn, Zo, Zp, Zq, Zr, reduceIte, reduceCtorEq, Zs, Zt, Zu, Zv]
      refine CallE.wr [(b7, .cells #[Value.int IntKind.i64 q1, Value.int IntKind.i64 q2, Value.bool q3, Value.int IntKind.i64 q4, Value.string (bs q5), Value.string (bs q6), Value.string (bs q7), Value.slice q8 q9 q10, Value.slice q11 q12 q13, Value.string (bs q14), Value.slice q15 q16 q17, Value.slice q18 q19 q20] 30 (0, 0))] H3 (hx _ le_up b _ _ (by simp only [List.length_append, List.length_cons, List.length_nil]; omega)) hp3 (by simp +contextual) (by simp +contextual) (by simpa using hd3) ?_
      intro H4 hp4 hd4
      simp only [List.forall_mem_cons, List.not_mem_nil, false_implies, implies_true, and_true] at hd4
      simp (disch := first | assumption | exact Ne.symm (by assumption) | omega) only [↓ZD, ZU, ZR, Za, Zb, Zc, Zd, Ze, Zf, Zg, Zh, Zi, Zj, Zk, Zl, Zm, Zn, Zo, Zp, Zq, Zr, reduceIte, reduceCtorEq, Zs, Zt, Zu, Zv]
      refine invK.on (i + 1, H4) ⟨by show i + 1 ≤ _; omega, by rw [e2, ← List.append_assoc, hS, e3, if_neg h0]; simpa only [List.append_assoc, List.nil_append] using hp4⟩ (by show _ - (i + 1) < _ - i; omega) ?_ (HLe_app hp4.lk hd4)
      simp only [Le_nil, Le_cons]
      simp (disch := first | assumption | exact Ne.symm (by assumption) | omega) only [↓ZD, ZU, ZR, Za, Zb, Zc, Zd, Ze, Zf, Zg, Zh, Zi, Zj, Zk, Zl, Zm, Zn, Zo, Zp, Zq, Zr, reduceIte, reduceCtorEq, Zs, Zt, Zu, Zv]
      first | done | rfl
  · have hd : decide ((i : Int) < (kids.length : Int)) = false := by simp; omega
    obtain rfl : i = kids.length := by omega
    rw [List.take_of_length_le (by rw [ptL_len]; omega), List.take_length, ← okL_all'] at hpi
    simp (disch := first | assumption | exact Ne.symm (by assumption) | omega) only [hd, ↓ZD, ZU, ZR, Za, Zb, Zc, Zd, Ze, Zf, Zg, Zh, Zi, Zj, Zk, Zl, Zm, Zn, Zo, Zp, Zq, Zr, reduceIte, reduceCtorEq, Zs, Zt, Zu, Zv]
    exact ⟨H, fun e he => he, hpi⟩
end Go.Proofs.YtoelfmmfjebabaaDoor
