/- Layer 10: what an attribute is of, and rows, told. -/
import Derived.Test.YtoelfmmfjebabaaDoorPnL
import Derived.Test.YtoelfmmfjebabaaDoorEng17
namespace Go.Proofs.YtoelfmmfjebabaaDoor
open Go Go.Eng
open Int renaming reduceEq → Za, reduceToNat → Zm, reduceLE → Zn, reduceLT → Zo, reduceAdd → Zp, reduceSub → Zq, reduceNeg → Zr, reducePow → Zt, reduceNegSucc → Zv
open UInt8 renaming reduceOfNat → Zb
open List renaming mapM_cons → Zc, mapM_nil → Zd
open Nat renaming reduceAdd → Ze, reduceMul → Zf, reduceMod → Zg, reduceDiv → Zh, reduceEqDiff → Zi, reduceBEq → Zj, reduceLeDiff → Zk, reduceSub → Zl, reducePow → Zs, reduceLT → Zu
set_option linter.unusedSimpArgs false
set_option linter.unusedVariables false
set_option maxRecDepth 20000

/-- What tells an expression. -/
def XW (F : Base) (x : Ex') (cs : List Value) : Prop := ∀ F' : Base, (∀ b o, F b = some o → F' b = some o) → ∀ b s bad, s.length + (pt x).length ≤ 100000000000000 →
  Wr F' 15 [.pointer (some ⟨b, 0, none⟩), .agg cs.toArray] b s bad (s ++ pt x) (bad || !okX x) (.tuple #[])
theorem XW.mono {F F' : Base} {x : Ex'} {cs : List Value} (h : XW F x cs) (hF : ∀ b o, F b = some o → F' b = some o) : XW F' x cs := fun F2 h2 => h F2 fun b o hb => h2 b o (hF b o hb)
theorem put_svc (F : Base) (b : Nat) (s : Str) (bad : Bool) {v : Value} {l : List Str} (hv : SlS F v l) (hl : s.length + l.flatten.length ≤ 100000000000000) (H0 : Hp) (hp : Pst F b s bad H0) (w0 : World) (hw0 : ∀ b o, F b = some o → w0.heap[b]? = some o) :
    svc Tryd.prog (H0.map (·.1)) F w0 fu26.n fu26.c (numb 0 [.pointer (some ⟨b, 0, none⟩), v]) H0 (fin F fu26.rv fun _ H' => Pst F b (s ++ l.flatten) bad H') := by
  obtain ⟨a, c, rfl, hc, hl2, hh⟩ := hv
  simp (disch := first | assumption | exact Ne.symm (by assumption) | omega) only [fu26, ↓ZD, ZU, ZR, Za, Zb, Zc, Zd, Ze, Zf, Zg, Zh, Zi, Zj, Zk, Zl, Zm, Zn, Zo, Zp, Zq, Zr, reduceIte, reduceCtorEq, Zs, Zt, Zu, Zv]
  refine LoopL.inv (α := Nat × Hp) (fun x => x.1 ≤ l.length ∧ Pst F b (s ++ (l.take x.1).flatten) bad x.2)
    (fun x => [(0, some (.pointer (some ⟨b, 0, none⟩))), (6, some (.slice a l.length c)), (7, some (.int .i64 l.length)), (8, some (.int .i64 x.1))])
    (fun x => x.2) (fun x => l.length - x.1) (0, H0) ⟨Nat.zero_le _, by simpa using hp⟩ (by (simp only [Le_nil, Le_cons]; simp (disch := first | assumption | exact Ne.symm (by assumption) | omega) only [↓ZD, ZU, ZR, Za, Zb, Zc, Zd, Ze, Zf, Zg, Zh, Zi, Zj, Zk, Zl, Zm, Zn, Zo, Zp, Zq, Zr, reduceIte, reduceCtorEq, Zs, Zt, Zu, Zv]; try trivial)) hp.hle ?_
  rintro ⟨i, H⟩ ⟨hi, hpi⟩
  simp only at hi hpi ⊢
  by_cases hlt : i < l.length
  · have hd : decide ((i : Int) < (l.length : Int)) = true := by simp; omega
    have gx := getS hlt
    obtain ⟨ba, oa, rfl, hla⟩ := (hh.1 i _ gx).ld1
    simp only [Nat.mul_one] at hla
    have hts : l.take (i + 1) = l.take i ++ [l.getD i []] := take_snoc gx
    have hle : (l.take (i + 1)).flatten.length ≤ l.flatten.length := by
      conv => rhs; rw [← List.take_append_drop (i + 1) l, List.flatten_append, List.length_append]
      omega
    rw [hts, List.flatten_append, List.length_append] at hle
    simp only [List.flatten_cons, List.flatten_nil, List.append_nil] at hle
    simp (disch := first | assumption | exact Ne.symm (by assumption) | omega) only [hd, Nat.mul_one, ↓ZD, ZU, ZR, Za, Zb, Zc, Zd, Ze, Zf, Zg, Zh, Zi, Zj, Zk, Zl, Zm, Zn, Zo, Zp, Zq, Zr, reduceIte, reduceCtorEq, Zs, Zt, Zu, Zv]
    refine conj.of (by omega) ?_
    simp (disch := first | assumption | exact Ne.symm (by assumption) | omega) only [hd, Int.toNat_natCast, Nat.mul_one, ↓hla, ↓ZD, ZU, ZR, Za, Zb, Zc, Zd, Ze, Zf, Zg, Zh, Zi, Zj, Zk, Zl, Zm, Zn, Zo, Zp, Zq, Zr, reduceIte, reduceCtorEq, Zs, Zt, Zu, Zv]
    refine CallE.does H [] (pstr_does F b _ (l.getD i []) bad hpi (by simp only [List.length_append]; omega)) (fun _ _ h => by simp [rdObj, h]) (fun e h => h) (fun e h => by cases h) (fun e h => by cases h) ?_
    rintro _ H2 ⟨rfl, hp2⟩ h1 h2 h3
    simp (disch := first | assumption | exact Ne.symm (by assumption) | omega) only [↓ZD, ZU, ZR, Za, Zb, Zc, Zd, Ze, Zf, Zg, Zh, Zi, Zj, Zk, Zl, Zm, Zn, Zo, Zp, Zq, Zr, reduceIte, reduceCtorEq, Zs, Zt, Zu, Zv]
    refine invK.on (i + 1, H2) ⟨by show i + 1 ≤ _; omega, by rw [hts, List.flatten_append, ← List.append_assoc]; simpa using hp2⟩ (by show _ - (i + 1) < _ - i; omega) ?_ hp2.hle
    simp only [Le_nil, Le_cons]
    simp (disch := first | assumption | exact Ne.symm (by assumption) | omega) only [↓ZD, ZU, ZR, Za, Zb, Zc, Zd, Ze, Zf, Zg, Zh, Zi, Zj, Zk, Zl, Zm, Zn, Zo, Zp, Zq, Zr, reduceIte, reduceCtorEq, Zs, Zt, Zu, Zv]
    rfl
  · have hd : decide ((i : Int) < (l.length : Int)) = false := by simp; omega
    obtain rfl : i = l.length := by omega
    rw [List.take_length] at hpi
    simp (disch := first | assumption | exact Ne.symm (by assumption) | omega) only [hd, ↓ZD, ZU, ZR, Za, Zb, Zc, Zd, Ze, Zf, Zg, Zh, Zi, Zj, Zk, Zl, Zm, Zn, Zo, Zp, Zq, Zr, reduceIte, reduceCtorEq, Zs, Zt, Zu, Zv]
    exact hpi
theorem put_dfr (F : Base) (b : Nat) (s : Str) (bad : Bool) {v : Value} {l : List Str} (hv : SlS F v l) (hl : s.length + l.flatten.length ≤ 100000000000000) (H0 : Hp) (hp : Pst F b s bad H0) :
    DoesD Tryd.prog F 26 #[.pointer (some ⟨b, 0, none⟩), v] H0 (fun H' => Pst F b (s ++ l.flatten) bad H') :=
  doesD_of_svc mixed Tryd.func26 low26 (Nat.le_of_ble_eq_true rfl) fun w0 hw0 => put_svc F b s bad hv hl H0 hp w0 hw0
theorem put_call_n : callable Tryd.prog 26 = true := by kernel_rfl
/-- A deferred call that writes. -/
theorem CallDG.wr {X : List Nat} {F : Base} {w0 : World} {f : Nat} {args : Array Value} {H : Hp} {K : Hp → Prop} {b : Nat} {s1 : Str} {bad1 : Bool} (Hr H0 : Hp) (h : DoesD Tryd.prog (rdObj F Hr) f args H0 (fun H' => Pst (rdObj F Hr) b s1 bad1 H'))
    (h0 : ∀ e ∈ H0, e ∈ H) (hr : ∀ e ∈ Hr, e ∈ H) (hd : ∀ e' ∈ Hr, ∀ e ∈ H0, e.1 ≠ e'.1)
    (hk : ∀ H', Pst F b s1 bad1 H' → K (Hr ++ H')) : CallDG Tryd.prog X F w0 f args H K :=
  CallDG.frame h (fun _ _ h => h) h0 hr hd fun H' hp' _ h2 _ => hk H' hp'.down
def sd29 : SD := SD.seq (SD.low (SC.reg [SO.mk (some 3) (S.box 30 (X.t 1)) none Kind.e])) (SD.seq (SD.seq (SD.low (SC.reg [SO.mk (some 4) (S.add 0 (X.t 3)) none Kind.q, SO.mk (some 5) (S.ld 1 false (X.t 4)) none Kind.q, SO.mk (some 6) (S.bin BinOp.eql (X.t 5) (X.c (Value.int IntKind.i64 6))) none Kind.q, SO.mk (some 7) (S.mv (X.t 6)) none Kind.q, SO.mk (some 8) (S.add 0 (X.t 3)) (some 14) Kind.q, SO.mk (some 9) (S.ld 1 false (X.t 8)) (some 14) Kind.q, SO.mk (some 10) (S.bin BinOp.eql (X.t 9) (X.c (Value.int IntKind.i64 14))) (some 14) Kind.q, SO.mk (some 11) (S.pick (X.t 7) (X.c (Value.bool true)) (X.t 10)) none Kind.q])) (SD.cond (X.t 11) (SD.seq (SD.low (SC.reg [SO.mk (some 12) (S.mv (X.t 0)) none Kind.q, SO.mk (some 13) (S.bslice 9 1 [Value.string (bs [])] [(0, 1, X.c (Value.string (bs [40])))]) none Kind.e, SO.mk (some 14) (S.call 26 [X.t 12, X.t 13]) none Kind.e])) (SD.dfr [SO.mk (some 15) (S.mv (X.t 0)) none Kind.q, SO.mk (some 16) (S.bslice 9 1 [Value.string (bs [])] [(0, 1, X.c (Value.string (bs [41])))]) none Kind.e] (X.c (Value.func (Fn.func 26) (Array.mk []) (Array.mk []))) [X.t 15, X.t 16])) (SD.low SC.skip))) (SD.low (SC.reg [SO.mk (some 17) (S.mv (X.t 0)) none Kind.q, SO.mk (some 18) (S.ld 12 true (X.t 3)) none Kind.q, SO.mk (some 19) (S.call 15 [X.t 17, X.t 18]) none Kind.e])))
theorem bod29 : Tryd.f29.body = some (Tryd.f29.body.getD .skip) := by kernel_rfl
theorem lowd29 : lowD Tryd.prog Tryd.f29.ntmps [] (Tryd.f29.body.getD .skip) = some sd29 := by kernel_rfl
theorem rvd29 : lowR Tryd.prog Tryd.f29.results.toList = some [] := by kernel_rfl
theorem owner_wr (F : Base) (b : Nat) (s : Str) (bad : Bool) {x : Ex'} {cs : List Value} (hx : RepX F cs x) (hw : XW F x cs) (hl : s.length + (own1 x.op (pt x)).length ≤ 100000000000000) :
    Wr F 29 [.pointer (some ⟨b, 0, none⟩), .agg cs.toArray] b s bad (s ++ own1 x.op (pt x)) (bad || !okX x) (.tuple #[]) := by
  intro H0 hp
  refine Does.shr (K := fun r H' => r = .tuple #[] ∧ ∃ Hc, (∀ e ∈ Hc, e ∈ H') ∧ Pst F b (s ++ own1 x.op (pt x)) (bad || !okX x) Hc) (fun w1 hw1 => ?_) fun _ _ ⟨h1, Hc, h2, h3⟩ => ⟨Hc, h2, h1, h3⟩
  obtain ⟨op, k, bo, n, s1, s2, s3, d1, d2, d3, d4, d5, d6, nm, a1, n1, c1, a2, n2, c2, rfl⟩ := hx.form
  refine callG_of_svd mixed Tryd.func29 bod29 lowd29 rvd29 (Nat.le_of_ble_eq_true rfl) ?_
  simp only [sd29, svd]
  simp (disch := first | assumption | exact Ne.symm (by assumption) | omega) only [↓ZD, ZU, ZR, Za, Zb, Zc, Zd, Ze, Zf, Zg, Zh, Zi, Zj, Zk, Zl, Zm, Zn, Zo, Zp, Zq, Zr, reduceIte, reduceCtorEq, Zs, Zt, Zu, Zv]
  refine NewB.of fun b3 hb3 hF3 => ?_
  have hx0 : x.op = op := by
    generalize hcs : [Value.int IntKind.i64 op, Value.int IntKind.i64 k, Value.bool bo, Value.int IntKind.i64 n, Value.string (bs s1), Value.string (bs s2), Value.string (bs s3), Value.slice d1 d2 d3, Value.slice d4 d5 d6, Value.string (bs nm), Value.slice a1 n1 c1, Value.slice a2 n2 c2] = cs at hx
    cases hx with
    | mk op' =>
      simp only [xcells, List.cons.injEq, Value.int.injEq] at hcs
      exact hcs.1.2.symm
  rw [hx0] at hl ⊢
  by_cases ho : op = 6 ∨ op = 14
  · have hl : s.length + (pt x).length + 2 ≤ 100000000000000 := by rw [own1, if_pos ho] at hl; simp only [List.length_cons, List.length_append, List.length_nil] at hl; omega
    have he : (op == 6) = true ∨ (op == 6) = false ∧ (op == 14) = true := by
      rcases ho with rfl | rfl
      · exact .inl rfl
      · exact .inr ⟨rfl, rfl⟩
    have key : ∀ e1 e2 : Bool, (op == 6) = e1 → (op == 14) = e2 → (e1 || e2) = true := by rintro _ _ rfl rfl; simpa using ho
    generalize h1 : (op == 6) = e1 at *
    generalize h2 : (op == 14) = e2 at *
    have key := key e1 e2 rfl rfl
    have hif : (if e1 then true else e2) = true := by cases e1 <;> simp_all
    simp (disch := first | assumption | exact Ne.symm (by assumption) | omega) only [hF3, h1, h2, ↓ZD, ZU, ZR, Za, Zb, Zc, Zd, Ze, Zf, Zg, Zh, Zi, Zj, Zk, Zl, Zm, Zn, Zo, Zp, Zq, Zr, reduceIte, reduceCtorEq, Zs, Zt, Zu, Zv]
    refine ⟨fun _ => ?_, fun h0 => absurd (key.symm.trans h0) (by decide)⟩
    refine NewB.of fun b1 hb1 hF1 => ?_
    simp only [List.forall_mem_cons, List.mem_cons, forall_eq_or_imp] at hb1
    simp (disch := first | assumption | exact Ne.symm (by assumption) | omega) only [hF1, hF3, h1, h2, ↓ZD, ZU, ZR, Za, Zb, Zc, Zd, Ze, Zf, Zg, Zh, Zi, Zj, Zk, Zl, Zm, Zn, Zo, Zp, Zq, Zr, reduceIte, reduceCtorEq, Zs, Zt, Zu, Zv]
    refine CallE.wr [(b1, .cells #[.string (bs [40])] 9 (0, 0)), (b3, .cells #[Value.int IntKind.i64 op, Value.int IntKind.i64 k, Value.bool bo, Value.int IntKind.i64 n, Value.string (bs s1), Value.string (bs s2), Value.string (bs s3), Value.slice d1 d2 d3, Value.slice d4 d5 d6, Value.string (bs nm), Value.slice a1 n1 c1, Value.slice a2 n2 c2] 30 (0, 0))] H0 (put1 _ b b1 9 s [40] _ (by simp [rdObj, hF1, lk]) (by simp only [List.length_cons, List.length_nil]; omega)) hp (by simp +contextual) (by simp +contextual) (by simp only [List.forall_mem_cons, List.not_mem_nil, false_implies, implies_true, and_true]; exact ⟨hb1.2, hb3⟩) ?_
    intro H2 hp2 hd2
    simp only [List.forall_mem_cons, List.not_mem_nil, false_implies, implies_true, and_true] at hd2
    simp (disch := first | assumption | exact Ne.symm (by assumption) | omega) only [↓ZD, ZU, ZR, Za, Zb, Zc, Zd, Ze, Zf, Zg, Zh, Zi, Zj, Zk, Zl, Zm, Zn, Zo, Zp, Zq, Zr, reduceIte, reduceCtorEq, Zs, Zt, Zu, Zv]
    refine NewB.of fun b4 hb4 hF4 => ?_
    simp only [List.forall_mem_cons, List.mem_cons, forall_eq_or_imp] at hb4
    simp (disch := first | assumption | exact Ne.symm (by assumption) | omega) only [hF3, hF4, ↓ZD, ZU, ZR, Za, Zb, Zc, Zd, Ze, Zf, Zg, Zh, Zi, Zj, Zk, Zl, Zm, Zn, Zo, Zp, Zq, Zr, reduceIte, reduceCtorEq, Zs, Zt, Zu, Zv]
    refine CallE.wr [(b4, .cells #[.string (bs [41])] 9 (0, 0)), (b1, .cells #[.string (bs [40])] 9 (0, 0)), (b3, .cells #[Value.int IntKind.i64 op, Value.int IntKind.i64 k, Value.bool bo, Value.int IntKind.i64 n, Value.string (bs s1), Value.string (bs s2), Value.string (bs s3), Value.slice d1 d2 d3, Value.slice d4 d5 d6, Value.string (bs nm), Value.slice a1 n1 c1, Value.slice a2 n2 c2] 30 (0, 0))] H2 (hw _ le_up b (s ++ [40]) bad (by simp only [List.length_append, List.length_cons, List.length_nil]; omega)) hp2 (by simp +contextual) (by simp +contextual) (by simp only [List.forall_mem_cons, List.not_mem_nil, false_implies, implies_true, and_true]; exact ⟨hb4.2.2, hd2⟩) ?_
    intro H3 hp3 hd3
    simp only [List.forall_mem_cons, List.not_mem_nil, false_implies, implies_true, and_true] at hd3
    simp (disch := first | assumption | exact Ne.symm (by assumption) | omega) only [finD, ↓ZD, ZU, ZR, Za, Zb, Zc, Zd, Ze, Zf, Zg, Zh, Zi, Zj, Zk, Zl, Zm, Zn, Zo, Zp, Zq, Zr, reduceIte, reduceCtorEq, Zs, Zt, Zu, Zv]
    refine ⟨_, _, rfl, put_call_n, CallDG.wr [(b4, .cells #[.string (bs [41])] 9 (0, 0))] H3 (put_dfr _ b (s ++ [40] ++ pt x) (bad || !okX x) (slsN (l := [[41]]) (T := 9) (by simp [rdObj, hF4, lk]) (by simp) (by simp)) (by simp; omega) H3 (hp3.up (by simpa using hd3.1))) (by simp +contextual) (by simp) (by simpa using hd3.1) fun H4 hp4 => ?_⟩
    simp (disch := first | assumption | exact Ne.symm (by assumption) | omega) only [↓ZD, ZU, ZR, Za, Zb, Zc, Zd, Ze, Zf, Zg, Zh, Zi, Zj, Zk, Zl, Zm, Zn, Zo, Zp, Zq, Zr, reduceIte, reduceCtorEq, Zs, Zt, Zu, Zv]
    refine ⟨H4, by simp +contextual, ?_⟩
    unfold own1
    rw [if_pos ho]
    simpa using hp4
  · rw [own1, if_neg ho] at hl
    have e1 : (op == 6) = false := by simp; omega
    have e2 : (op == 14) = false := by simp; omega
    simp (disch := first | assumption | exact Ne.symm (by assumption) | omega) only [hF3, e1, e2, ↓ZD, ZU, ZR, Za, Zb, Zc, Zd, Ze, Zf, Zg, Zh, Zi, Zj, Zk, Zl, Zm, Zn, Zo, Zp, Zq, Zr, reduceIte, reduceCtorEq, Zs, Zt, Zu, Zv]
    refine CallE.wr [(b3, .cells #[Value.int IntKind.i64 op, Value.int IntKind.i64 k, Value.bool bo, Value.int IntKind.i64 n, Value.string (bs s1), Value.string (bs s2), Value.string (bs s3), Value.slice d1 d2 d3, Value.slice d4 d5 d6, Value.string (bs nm), Value.slice a1 n1 c1, Value.slice a2 n2 c2] 30 (0, 0))] H0 (hw _ le_up b s bad (by omega)) hp (by simp +contextual) (by simp +contextual) (by simpa using hb3) ?_
    intro H2 hp2 hd2
    simp (disch := first | assumption | exact Ne.symm (by assumption) | omega) only [finD, ↓ZD, ZU, ZR, Za, Zb, Zc, Zd, Ze, Zf, Zg, Zh, Zi, Zj, Zk, Zl, Zm, Zn, Zo, Zp, Zq, Zr, reduceIte, reduceCtorEq, Zs, Zt, Zu, Zv]
    refine ⟨H2, by simp +contextual, ?_⟩
    unfold own1
    rw [if_neg ho]
    exact hp2
end Go.Proofs.YtoelfmmfjebabaaDoor
