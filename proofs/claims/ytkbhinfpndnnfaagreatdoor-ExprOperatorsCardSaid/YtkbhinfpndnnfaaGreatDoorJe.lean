/- Joined. -/
import Derived.Test.YtkbhinfpndnnfaaGreatDoorJd
set_option linter.unusedSectionVars false
namespace Go.Proofs.YtkbhinfpndnnfaaGreatDoor
open Go Go.Eng
set_option maxHeartbeats 1000000
set_option linter.unusedSimpArgs false
set_option linter.unusedVariables false
set_option maxRecDepth 20000
abbrev PV (l : Value) (p : St) : Value := .agg #[l, .int .i64 p.p, .int .i64 p.deep, .int .i64 p.e, .int .i64 p.bad]
theorem HasW.one' {F : Base} {ws : Ws} {l : Value} (h : HasW F ws l) : oneCell l = true := by
 obtain ⟨b, cap, sp, T, fz, rfl, -⟩ := h; rfl
theorem rword_pure (F : Base) {ws : Ws} {l : Value} (hW : HasW F ws l) (p : St) : PureV Tryz.prog F 72 #[PV l p] (.agg (wdV (wdAt ws p.p).1 (wdAt ws p.p).2).toArray) := by
 obtain ⟨bw, cap, sp, T, fz, rfl, hFw, hc, hm, hne⟩ := hW
 have hpos : 0 < ws.length := List.length_pos_iff.2 hne
 refine pureV_of_svc (args := [PV _ p]) mixed Tryz.func72 low72 (Nat.le_of_ble_eq_true rfl) (fun w0 => ?_)
 simp (disch := first | assumption | exact Ne.symm (by assumption) | omega) only [fu72, ↓ZD, ZW, simprocAttr]
 refine NewB.of fun b1 hb1 hF1 => ?_
 simp (disch := first | assumption | exact Ne.symm (by assumption) | omega) only [hF1, ↓ZD, ZW, simprocAttr]
 refine NewB.of fun b2 hb2 hF2 => ?_
 simp only [List.forall_mem_cons, List.not_mem_nil, false_implies, implies_true, and_true] at hb2
 simp (disch := first | assumption | exact Ne.symm (by assumption) | omega) only [hF1, hF2, ↓ZD, ZW, simprocAttr]
 by_cases h : 0 ≤ p.p ∧ p.p < ws.length
 ·obtain ⟨i, hi⟩ : ∃ i : Nat, p.p = i := ⟨p.p.toNat, by omega⟩
  have hlt : i < ws.length := by omega
  have h1 : decide ((0 : Int) ≤ (i : Int)) = true := by simp
  have h2 : decide ((i : Int) < (ws.length : Int)) = true := by simp; omega
  have hld := wds_at (sp := sp) (T := T) (fz := fz) hlt
  rw [hi, wdAt_in hlt]
  simp (disch := first | assumption | exact Ne.symm (by assumption) | omega) only [hF1, hF2, h1, h2, hFw, hld, Int.toNat_natCast, wdV, ↓ZD, ZW, simprocAttr]
  refine conj.of (by omega) ?_
  simp (disch := first | assumption | exact Ne.symm (by assumption) | omega) only [hF1, hF2, h1, h2, hFw, hld, Int.toNat_natCast, wdV, ↓ZD, ZW, simprocAttr]
 ·have h1 : (decide (0 ≤ p.p) && decide (p.p < (ws.length : Int))) = false := by
   rw [Bool.and_eq_false_iff, decide_eq_false_iff_not, decide_eq_false_iff_not]; omega
  have h2 : decide ((0 : Int) < (ws.length : Int)) = true := by simp; omega
  have h3 : ((ws.length : Int) - 1).toNat = ws.length - 1 := by omega
  have hld := wds_at3 (ws := ws) (sp := sp) (T := T) (fz := fz) (i := ws.length - 1) (by omega)
  rw [wdAt_out h]
  simp (disch := first | assumption | exact Ne.symm (by assumption) | omega) only [hF1, hF2, h1, h2, h3, hFw, hld, Int.toNat_natCast, wdV, ↓ZD, ZW, simprocAttr]
  refine conj.of (by omega) ?_
  simp (disch := first | assumption | exact Ne.symm (by assumption) | omega) only [hF1, hF2, h1, h2, h3, hFw, hld, Int.toNat_natCast, wdV, ↓ZD, ZW, simprocAttr]
theorem rIs_pure (F : Base) {ws : Ws} {l : Value} (hW : HasW F ws l) (p : St) (t : Str) : PureV Tryz.prog F 47 #[PV l p, .string (bs t)] (.bool (isS ws p t)) := by
 refine pureV_of_svc (args := [PV _ p, .string (bs t)]) mixed Tryz.func47 low47 (Nat.le_of_ble_eq_true rfl) (fun w0 => ?_)
 simp (disch := first | assumption | exact Ne.symm (by assumption) | omega) only [fu47, ↓ZD, ZW, simprocAttr]
 refine NewB.of fun b1 hb1 hF1 => ?_
 simp (disch := first | assumption | exact Ne.symm (by assumption) | omega) only [hF1, ↓ZD, ZW, simprocAttr]
 refine CallE.pure (rword_pure F hW p) ?_
 simp (disch := first | assumption | exact Ne.symm (by assumption) | omega) only [hF1, wdV, ↓ZD, ZW, simprocAttr]
 refine NewB.of fun b2 hb2 hF2 => ?_
 simp only [List.forall_mem_cons, List.not_mem_nil, false_implies, implies_true, and_true] at hb2
 simp (disch := first | assumption | exact Ne.symm (by assumption) | omega) only [hF1, hF2, wdV, ↓ZD, ZW, simprocAttr]
 unfold isS wk wtx
 rw [Bool.or_comm (((wdAt ws p.p).1.1 : Int) == 5)]
theorem rfail_pure (F : Base) {ws : Ws} {l : Value} (hW : HasW F ws l) (p : St) (e : Int) : PureV Tryz.prog F 71 #[PV l p, .int .i64 e] (PV l (failS ws p e)) := by
 have hol := hW.one'
 refine pureV_of_svc (args := [PV _ p, .int .i64 e]) mixed Tryz.func71 low71 (Nat.le_of_ble_eq_true rfl) (fun w0 => ?_)
 simp (disch := first | assumption | exact Ne.symm (by assumption) | omega) only [fu71, ↓ZD, ZW, simprocAttr]
 refine NewB.of fun b1 hb1 hF1 => ?_
 simp (disch := first | assumption | exact Ne.symm (by assumption) | omega) only [hol, hF1, ↓ZD, ZW, simprocAttr]
 refine NewB.of fun b2 hb2 hF2 => ?_
 simp only [List.forall_mem_cons, List.not_mem_nil, false_implies, implies_true, and_true] at hb2
 simp (disch := first | assumption | exact Ne.symm (by assumption) | omega) only [hol, hF1, hF2, ↓ZD, ZW, simprocAttr]
 unfold failS
 by_cases h : p.e = 0
 ·have hd : (p.e == 0) = true := by simpa using h
  rw [if_pos h]
  simp (disch := first | assumption | exact Ne.symm (by assumption) | omega) only [hol, hF1, hF2, hd, ↓ZD, ZW, simprocAttr]
  refine CallE.pure (rword_pure F hW ⟨p.p, p.deep, e, p.bad⟩) ?_
  simp (disch := first | assumption | exact Ne.symm (by assumption) | omega) only [hol, hF1, hF2, wf3, wsz, ↓ZD, ZW, simprocAttr]
 ·have hd : (p.e == 0) = false := by simpa using h
  rw [if_neg h]
  simp (disch := first | assumption | exact Ne.symm (by assumption) | omega) only [hol, hF1, hF2, hd, ↓ZD, ZW, simprocAttr]
theorem rmust_pure (F : Base) {ws : Ws} {l : Value} (hW : HasW F ws l) (p : St) (t : Str) : PureV Tryz.prog F 48 #[PV l p, .string (bs t)] (PV l (mustS ws p t)) := by
 have hol := hW.one'
 have hlen := hW.len
 refine pureV_of_svc (args := [PV _ p, .string (bs t)]) mixed Tryz.func48 low48 (Nat.le_of_ble_eq_true rfl) (fun w0 => ?_)
 simp (disch := first | assumption | exact Ne.symm (by assumption) | omega) only [fu48, ↓ZD, ZW, simprocAttr]
 refine NewB.of fun b1 hb1 hF1 => ?_
 simp (disch := first | assumption | exact Ne.symm (by assumption) | omega) only [hol, hF1, ↓ZD, ZW, simprocAttr]
 refine NewB.of fun b2 hb2 hF2 => ?_
 simp only [List.forall_mem_cons, List.not_mem_nil, false_implies, implies_true, and_true] at hb2
 simp (disch := first | assumption | exact Ne.symm (by assumption) | omega) only [hol, hF1, hF2, ↓ZD, ZW, simprocAttr]
 refine CallE.pure (rIs_pure F hW p t) ?_
 unfold mustS
 cases h : isS ws p t with
 | true =>
  have hr := isS_range h
  have hw1 : IntKind.i64.wrap (p.p + 1) = p.p + 1 := by rw [wrap_i64]; omega
  simp (disch := first | assumption | exact Ne.symm (by assumption) | omega) only [hol, hF1, hF2, h, hw1, adv, ↓ZD, ZW, simprocAttr]
 | false =>
  simp (disch := first | assumption | exact Ne.symm (by assumption) | omega) only [hol, hF1, hF2, h, ↓ZD, ZW, simprocAttr]
  refine CallE.pure (rfail_pure F hW p 10) ?_
  simp (disch := first | assumption | exact Ne.symm (by assumption) | omega) only [hol, hF1, hF2, ↓ZD, ZW, simprocAttr]
theorem rtake_pure (F : Base) {ws : Ws} {l : Value} (hW : HasW F ws l) (p : St) (k : Int) (hk : k ≠ 0) : PureV Tryz.prog F 54 #[PV l p, .int .i64 k] (.tuple #[PV l (takeS ws p k).2, .string (bs (takeS ws p k).1)]) := by
 have hol := hW.one'
 have hlen := hW.len
 refine pureV_of_svc (args := [PV _ p, .int .i64 k]) mixed Tryz.func54 low54 (Nat.le_of_ble_eq_true rfl) (fun w0 => ?_)
 simp (disch := first | assumption | exact Ne.symm (by assumption) | omega) only [fu54, ↓ZD, ZW, simprocAttr]
 refine NewB.of fun b1 hb1 hF1 => ?_
 simp (disch := first | assumption | exact Ne.symm (by assumption) | omega) only [hol, hF1, ↓ZD, ZW, simprocAttr]
 refine NewB.of fun b2 hb2 hF2 => ?_
 simp only [List.forall_mem_cons, List.not_mem_nil, false_implies, implies_true, and_true] at hb2
 simp (disch := first | assumption | exact Ne.symm (by assumption) | omega) only [hol, hF1, hF2, ↓ZD, ZW, simprocAttr]
 refine CallE.pure (rword_pure F hW p) ?_
 simp (disch := first | assumption | exact Ne.symm (by assumption) | omega) only [hol, hF1, hF2, wdV, ↓ZD, ZW, simprocAttr]
 refine NewB.of fun b3 hb3 hF3 => ?_
 simp only [List.forall_mem_cons, List.not_mem_nil, false_implies, implies_true, and_true] at hb3
 obtain ⟨n23, n13⟩ := hb3
 simp (disch := first | assumption | exact Ne.symm (by assumption) | omega) only [hol, hF1, hF2, hF3, wdV, ↓ZD, ZW, simprocAttr]
 unfold takeS
 by_cases h : p.e = 0 ∧ wk ws p = k
 ·have h1 : (p.e != 0) = false := by simpa using h.1
  have h2 : ((((wdAt ws p.p).1.1 : Nat) : Int) != k) = false := by simpa [wk] using h.2
  have hr := in_range (ws := ws) (p := p.p) (by have := h.2; unfold wk at this; omega)
  have hw1 : IntKind.i64.wrap (p.p + 1) = p.p + 1 := by rw [wrap_i64]; omega
  rw [if_pos h]
  simp (disch := first | assumption | exact Ne.symm (by assumption) | omega) only [hol, hF1, hF2, hF3, h1, h2, hw1, adv, ↓ZD, ZW, simprocAttr]
  refine TreeL.open ?_
  simp (disch := first | assumption | exact Ne.symm (by assumption) | omega) only [hol, hF1, hF2, hF3, h1, h2, hw1, adv, wtx, ↓ZD, ZW, simprocAttr]
 ·have h1 : (p.e != 0 || (((wdAt ws p.p).1.1 : Nat) : Int) != k) = true := by
   rw [Bool.or_eq_true, bne_iff_ne, bne_iff_ne]
   by_cases h3 : p.e = 0
   ·exact .inr fun h4 => h ⟨h3, h4⟩
   ·exact .inl h3
  rw [if_neg h]
  simp (disch := first | assumption | exact Ne.symm (by assumption) | omega) only [hol, hF1, hF2, hF3, h1, ↓ZD, ZW, simprocAttr]
  refine CallE.pure (rfail_pure F hW p 10) ?_
  simp (disch := first | assumption | exact Ne.symm (by assumption) | omega) only [hol, hF1, hF2, hF3, ↓ZD, ZW, simprocAttr]
theorem rbehind_pure (F : Base) {ws : Ws} {l : Value} (hW : HasW F ws l) (p : St) (hp : 0 ≤ p.p ∧ p.p < ws.length) : PureV Tryz.prog F 79 #[PV l p] (.agg (wdV (wdAt ws (p.p + 1)).1 (wdAt ws (p.p + 1)).2).toArray) := by
 have hol := hW.one'
 have hlen := hW.len
 have hw1 : IntKind.i64.wrap (p.p + 1) = p.p + 1 := by rw [wrap_i64]; omega
 refine pureV_of_svc (args := [PV _ p]) mixed Tryz.func79 low79 (Nat.le_of_ble_eq_true rfl) (fun w0 => ?_)
 simp (disch := first | assumption | exact Ne.symm (by assumption) | omega) only [fu79, ↓ZD, ZW, simprocAttr]
 refine NewB.of fun b1 hb1 hF1 => ?_
 simp (disch := first | assumption | exact Ne.symm (by assumption) | omega) only [hol, hF1, ↓ZD, ZW, simprocAttr]
 refine NewB.of fun b2 hb2 hF2 => ?_
 simp only [List.forall_mem_cons, List.not_mem_nil, false_implies, implies_true, and_true] at hb2
 simp (disch := first | assumption | exact Ne.symm (by assumption) | omega) only [hol, hF1, hF2, hw1, ↓ZD, ZW, simprocAttr]
 refine CallE.pure (rword_pure F hW (adv p)) ?_
 simp (disch := first | assumption | exact Ne.symm (by assumption) | omega) only [hol, hF1, hF2, hw1, wdV, adv, ↓ZD, ZW, simprocAttr]
theorem rOwn_pure (F : Base) (s : Str) : PureV Tryz.prog F 78 #[.string (bs s)] (.bool (decide (s ∈ ownL))) := by
 refine pureV_of_svc mixed Tryz.func78 low78 (Nat.le_of_ble_eq_true rfl) (fun w0 => ?_)
 simp (disch := first | assumption | exact Ne.symm (by assumption) | omega) only [fu78, ↓ZD, ZW, simprocAttr]
 have key : decide (s ∈ ownL) = (s == [105, 102] || s == [116, 104, 101, 110] || s == [101, 108, 115, 101] || s == [116, 114, 117, 101] || s == [102, 97, 108, 115, 101] || s == [105, 110] || s == [104, 97, 115] || s == [105, 115]) := by rw [Bool.eq_iff_iff]; simp [ownL, Bool.or_eq_true, or_assoc]
 refine ⟨fun h => ⟨fun _ => by rw [key, h]; simp, fun h2 => by rw [h] at h2; cases h2⟩, fun h0 => ?_⟩
 refine ⟨fun h => ⟨fun _ => by rw [key, h]; simp, fun h2 => by rw [h] at h2; cases h2⟩, fun h1 => ?_⟩
 refine ⟨fun h => ⟨fun _ => by rw [key, h]; simp, fun h2 => by rw [h] at h2; cases h2⟩, fun h2 => ?_⟩
 refine ⟨fun h => ⟨fun _ => by rw [key, h]; simp, fun h2 => by rw [h] at h2; cases h2⟩, fun h3 => ?_⟩
 refine ⟨fun h => ⟨fun _ => by rw [key, h]; simp, fun h2 => by rw [h] at h2; cases h2⟩, fun h4 => ?_⟩
 refine ⟨fun h => ⟨fun _ => by rw [key, h]; simp, fun h2 => by rw [h] at h2; cases h2⟩, fun h5 => ?_⟩
 refine ⟨fun h => ⟨fun _ => by rw [key, h]; simp, fun h2 => by rw [h] at h2; cases h2⟩, fun h6 => ?_⟩
 refine ⟨fun h => by rw [key, h]; simp, fun h7 => ?_⟩
 rw [key, h0, h1, h2, h3, h4, h5, h6, h7]; rfl
theorem rpair_does (F : Base) (op : Int) (a c : List Value) (ha : a.length = 12) (hc : c.length = 12) : Does Tryz.prog F 74 #[.int .i64 op, .agg a.toArray, .agg c.toArray] [] (fun r H' => ∃ bk, r = .agg (xcells op lv0 (.slice none 0 0) (.slice none 0 0) [] (.slice (some ⟨bk, 0, none⟩) 2 2) (.slice none 0 0)).toArray ∧ H' = [(bk, .cells (a ++ c).toArray 38 (0, 0))]) := by
 refine Does.shr (K := fun r H' => ∃ bk, r = .agg (xcells op lv0 (.slice none 0 0) (.slice none 0 0) [] (.slice (some ⟨bk, 0, none⟩) 2 2) (.slice none 0 0)).toArray ∧ (bk, .cells (a ++ c).toArray 38 (0, 0)) ∈ H') ?_ fun r H' ⟨bk, h1, h2⟩ => ⟨[_], by simpa using h2, bk, h1, rfl⟩
 refine does_of_svc (args := [.int .i64 op, .agg a.toArray, .agg c.toArray]) mixed Tryz.func74 low74 (Nat.le_of_ble_eq_true rfl) (fun w0 hw0 => ?_)
 have t1 : ∀ r, (a ++ r).take 12 = a := fun r => List.take_left' ha
 have t0 : a.take 12 = a := List.take_of_length_le (Nat.le_of_eq ha)
 have t2 : c.take 12 = c := List.take_of_length_le (Nat.le_of_eq hc)
 simp (disch := first | assumption | exact Ne.symm (by assumption) | omega) only [fu74, ha, hc, t0, t2, ↓ZD, ZW, simprocAttr]
 refine NewB.of fun b1 hb1 hF1 => ?_
 simp (disch := first | assumption | exact Ne.symm (by assumption) | omega) only [hF1, ha, hc, t0, t2, ↓ZD, ZW, simprocAttr]
 refine NewB.of fun b2 hb2 hF2 => ?_
 simp only [List.forall_mem_cons, List.not_mem_nil, false_implies, implies_true, and_true] at hb2
 simp (disch := first | assumption | exact Ne.symm (by assumption) | omega) only [hF1, hF2, ha, hc, t0, t2, ↓ZD, ZW, simprocAttr]
 refine NewB.of fun b3 hb3 hF3 => ?_
 simp only [List.forall_mem_cons, List.not_mem_nil, false_implies, implies_true, and_true] at hb3
 obtain ⟨hb31, hb32⟩ := hb3
 have d2 : List.drop 24 (a ++ [Value.int IntKind.i64 0, Value.int IntKind.i64 0, Value.bool false, Value.int IntKind.i64 0, Value.string (bs []), Value.string (bs []), Value.string (bs []), Value.slice none 0 0, Value.slice none 0 0, Value.string (bs []), Value.slice none 0 0, Value.slice none 0 0]) = [] := List.drop_eq_nil_of_le (by simp [ha])
 simp (disch := first | assumption | exact Ne.symm (by assumption) | omega) only [hF1, hF2, hF3, ha, hc, t0, t1, t2, d2, ↓ZD, ZW, simprocAttr]
 refine NewB.of fun b4 hb4 hF4 => ?_
 simp only [List.forall_mem_cons, List.not_mem_nil, false_implies, implies_true, and_true] at hb4
 obtain ⟨hb41, hb42, hb43⟩ := hb4
 simp (disch := first | assumption | exact Ne.symm (by assumption) | omega) only [hF1, hF2, hF3, hF4, ha, hc, t0, t1, t2, ↓ZD, ZW, simprocAttr]
 exact ⟨b4, rfl, List.mem_cons_self⟩
theorem ralone_does (F : Base) (op : Int) (a : List Value) (ha : a.length = 12) : Does Tryz.prog F 95 #[.int .i64 op, .agg a.toArray] [] (fun r H' => ∃ bk, r = .agg (xcells op lv0 (.slice none 0 0) (.slice none 0 0) [] (.slice (some ⟨bk, 0, none⟩) 1 1) (.slice none 0 0)).toArray ∧ H' = [(bk, .cells a.toArray 38 (0, 0))]) := by
 refine Does.shr (K := fun r H' => ∃ bk, r = .agg (xcells op lv0 (.slice none 0 0) (.slice none 0 0) [] (.slice (some ⟨bk, 0, none⟩) 1 1) (.slice none 0 0)).toArray ∧ (bk, .cells a.toArray 38 (0, 0)) ∈ H') ?_ fun r H' ⟨bk, h1, h2⟩ => ⟨[_], by simpa using h2, bk, h1, rfl⟩
 refine does_of_svc (args := [.int .i64 op, .agg a.toArray]) mixed Tryz.func95 low95 (Nat.le_of_ble_eq_true rfl) (fun w0 hw0 => ?_)
 have t0 : a.take 12 = a := List.take_of_length_le (Nat.le_of_eq ha)
 simp (disch := first | assumption | exact Ne.symm (by assumption) | omega) only [fu95, ha, t0, ↓ZD, ZW, simprocAttr]
 refine NewB.of fun b1 hb1 hF1 => ?_
 simp (disch := first | assumption | exact Ne.symm (by assumption) | omega) only [hF1, ha, t0, ↓ZD, ZW, simprocAttr]
 refine NewB.of fun b2 hb2 hF2 => ?_
 simp only [List.forall_mem_cons, List.not_mem_nil, false_implies, implies_true, and_true] at hb2
 simp (disch := first | assumption | exact Ne.symm (by assumption) | omega) only [hF1, hF2, ha, t0, ↓ZD, ZW, simprocAttr]
 refine NewB.of fun b3 hb3 hF3 => ?_
 simp only [List.forall_mem_cons, List.not_mem_nil, false_implies, implies_true, and_true] at hb3
 obtain ⟨hb31, hb32⟩ := hb3
 simp (disch := first | assumption | exact Ne.symm (by assumption) | omega) only [hF1, hF2, hF3, ha, t0, ↓ZD, ZW, simprocAttr]
 exact ⟨b3, rfl, List.mem_cons_self⟩
def downS (ws : Ws) (p : St) : St := ⟨(if 50 ≤ p.deep then failS ws p 11 else p).p, IntKind.i64.wrap ((if 50 ≤ p.deep then failS ws p 11 else p).deep + 1), (if 50 ≤ p.deep then failS ws p 11 else p).e, (if 50 ≤ p.deep then failS ws p 11 else p).bad⟩
theorem rdown_pure (F : Base) {ws : Ws} {l : Value} (hW : HasW F ws l) (p : St) : PureV Tryz.prog F 46 #[PV l p] (PV l (downS ws p)) := by
 have hol := hW.one'
 refine pureV_of_svc (args := [PV _ p]) mixed Tryz.func46 low46 (Nat.le_of_ble_eq_true rfl) (fun w0 => ?_)
 simp (disch := first | assumption | exact Ne.symm (by assumption) | omega) only [fu46, ↓ZD, ZW, simprocAttr]
 refine NewB.of fun b1 hb1 hF1 => ?_
 simp (disch := first | assumption | exact Ne.symm (by assumption) | omega) only [hol, hF1, ↓ZD, ZW, simprocAttr]
 refine NewB.of fun b2 hb2 hF2 => ?_
 simp only [List.forall_mem_cons, List.not_mem_nil, false_implies, implies_true, and_true] at hb2
 simp (disch := first | assumption | exact Ne.symm (by assumption) | omega) only [hol, hF1, hF2, ↓ZD, ZW, simprocAttr]
 unfold downS
 by_cases h : 50 ≤ p.deep
 ·have hd : decide (50 ≤ p.deep) = true := decide_eq_true h
  rw [if_pos h]
  simp (disch := first | assumption | exact Ne.symm (by assumption) | omega) only [hol, hF1, hF2, hd, ↓ZD, ZW, simprocAttr]
  refine CallE.pure (rfail_pure F hW p 11) ?_
  simp (disch := first | assumption | exact Ne.symm (by assumption) | omega) only [hol, hF1, hF2, ↓ZD, ZW, simprocAttr]
 ·have hd : decide (50 ≤ p.deep) = false := decide_eq_false h
  rw [if_neg h]
  simp (disch := first | assumption | exact Ne.symm (by assumption) | omega) only [hol, hF1, hF2, hd, ↓ZD, ZW, simprocAttr]
end Go.Proofs.YtkbhinfpndnnfaaGreatDoor
namespace Go.Proofs.YtkbhinfpndnnfaaGreatDoor
open Go Go.Eng
set_option maxHeartbeats 1000000
set_option linter.unusedSimpArgs false
set_option linter.unusedVariables false
set_option maxRecDepth 20000
def RPost (F : Base) (l : Value) (x : Ex') (s' : St) (r : Value) (H' : Hp) : Prop := ∃ (p' : St) (cs : List Value), Agr p' s' ∧ r = .tuple #[PV l p', .agg cs.toArray] ∧ Ok12 cs ∧ (s'.e = 0 → RepP (rdObj F H') cs x) ∧ Wk H'
def RFin (F : Base) (l : Value) (x : Ex') (s' : St) (r : Value) (H : Hp) : Prop := ∃ (p' : St) (cs : List Value) (Hx : Hp), Agr p' s' ∧ r = .tuple #[PV l p', .agg cs.toArray] ∧ Ok12 cs ∧ (s'.e = 0 → RepP (rdObj F Hx) cs x) ∧ Wk Hx ∧ ∀ e ∈ Hx, e ∈ H
theorem Does.rfin {F : Base} {l : Value} {f : Nat} {args : Array Value} {x : Ex'} {s' : St} (h : Does Tryz.prog F f args [] (RFin F l x s')) : Does Tryz.prog F f args [] (RPost F l x s') :=
 h.shr fun v H' ⟨p', cs, Hx, h1, h2, h3, h4, h5, h6⟩ => ⟨Hx, h6, p', cs, h1, h2, h3, h4, h5⟩
def RPrs (F : Base) (l : Value) (f : Nat) (args : List Value) (R : St → Option (Ex' × St)) : Prop := ∀ F' : Base, (∀ b o, F b = some o → F' b = some o) → ∀ (p s : St) (x : Ex') (s' : St), Agr p s → Good s → R s = some (x, s') →
 Does Tryz.prog F' f (PV l p :: args).toArray [] (RPost F' l x s')
theorem RPrs.mono {F F' : Base} {l : Value} {f : Nat} {args : List Value} {R : St → Option (Ex' × St)} (h : RPrs F l f args R) (hF : ∀ b o, F b = some o → F' b = some o) : RPrs F' l f args R := fun F2 h2 => h F2 fun b o hb => h2 b o (hF b o hb)
theorem RPrs.weak {F : Base} {l : Value} {f : Nat} {args : List Value} {R R' : St → Option (Ex' × St)} (h : RPrs F l f args R) (hR : ∀ s y, R' s = some y → R s = some y) : RPrs F l f args R' :=
 fun F' hF p s x s' hA hg h' => h F' hF p s x s' hA hg (hR s (x, s') h')
theorem rdObj_r {F : Base} {G X : Hp} (h : ∀ e ∈ G, ∀ e' ∈ X, e'.1 ≠ e.1) {b : Nat} {o : Obj} (hb : rdObj F X b = some o) : rdObj F (G ++ X) b = some o := by
 unfold rdObj at *
 cases hF : F b with
 | some o2 => simpa [hF] using hb
 | none =>
  simp only [hF] at hb ⊢
  rw [lk_append, lk_none fun e he => fun x => h e he _ (lk_mem hb) x.symm]
  exact hb
theorem rdObj_tail {F : Base} {G : Hp} {bk : Nat} {ob : Obj} {b : Nat} {o : Obj} (h : rdObj F ((bk, ob) :: G) b = some o) (hn : ∀ e ∈ G, e.1 ≠ bk) : rdObj F (G ++ [(bk, ob)]) b = some o := by
 unfold rdObj at *
 cases hF : F b with
 | some o2 => simpa [hF] using h
 | none =>
  simp only [hF] at h ⊢
  rw [lk_append]
  simp only [lk] at h ⊢
  split at h
  ·rename_i e
   subst e
   rw [lk_none hn]
   simpa using h
  ·rw [h]
section
variable {X : List Nat} {F : Base} {w0 : World} {H : Hp} {K : Value → Hp → Prop} {Hl G : Hp}
theorem CallE.rqd {l : Value} {f : Nat} {args : Array Value} {x : Ex'} {s' : St} [tl : Tl H Hl G] (h : Does Tryz.prog F f args [] (RPost F l x s')) (sd : Dj Hl G ∧ Wk G)
  (hk : ∀ p' cs G', Agr p' s' → (s'.e = 0 → RepP (rdObj F G') cs x) → Ok12 cs ∧ Dj Hl G' ∧ (∀ b o, rdObj F G b = some o → rdObj F G' b = some o) ∧ Wk G' → K (.tuple #[PV l p', .agg cs.toArray]) (Hl ++ G')) :
  @CallE Tryz.prog X F w0 f args H ⟨K⟩ := by
 obtain rfl := tl.eq
 refine CallG.frame (F1 := F) (H0 := []) (Hr := Hl ++ G) h le_up (fun e h => by cases h) (fun e h => h) (fun e' _ e h => by cases h) fun v H' ⟨p', cs, k1, k2, k3, k4, kw⟩ _ d2 _ => ?_
 rw [k2, List.append_assoc]
 have d3 : ∀ e ∈ G, ∀ e' ∈ H', e'.1 ≠ e.1 := fun e he e' he' => d2 e (List.mem_append_right _ he) e' he'
 exact hk p' cs (G ++ H') k1 (fun he => (k4 he).mono fun _ _ => rdObj_r d3) ⟨k3, sd.1.app (Dj.iff.2 fun e he e' he' => d2 e (List.mem_append_left _ he) e' he'), fun _ _ => rdObj_app1, sd.2.app kw d3⟩
theorem CallE.rq {l : Value} {f : Nat} {args : List Value} {R : St → Option (Ex' × St)} {p s : St} {x : Ex'} {s' : St} [tl : Tl H Hl G] (h : RPrs F l f args R) (hA : Agr p s) (hd : Good s) (hR : R s = some (x, s')) (sd : Dj Hl G ∧ Wk G)
  (hk : ∀ p' cs G', Agr p' s' → (s'.e = 0 → RepP (rdObj F G') cs x) → Ok12 cs ∧ Dj Hl G' ∧ (∀ b o, rdObj F G b = some o → rdObj F G' b = some o) ∧ Wk G' → K (.tuple #[PV l p', .agg cs.toArray]) (Hl ++ G')) :
  @CallE Tryz.prog X F w0 f (PV l p :: args).toArray H ⟨K⟩ := CallE.rqd (h F (fun _ _ h => h) p s x s' hA hd hR) sd hk
theorem mk_two {op : Int} {a c : List Value} {x y : Ex'} {P : Prop} (hop : I64 op) (ra : P → RepP (rdObj F G) a x) (rc : P → RepP (rdObj F G) c y) (sd : Dj Hl G ∧ Wk G)
  (hk : ∀ cs G', (P → RepP (rdObj F G') cs (twoX op x y)) → Ok12 cs ∧ Dj Hl G' ∧ (∀ b o, rdObj F G b = some o → rdObj F G' b = some o) ∧ Wk G' → K (.agg cs.toArray) (Hl ++ G')) {bk : Nat} (hF : F bk = none) (hb : ∀ e ∈ Hl ++ G, e.1 ≠ bk) :
  K (.agg (xcells op lv0 (.slice none 0 0) (.slice none 0 0) [] (.slice (some ⟨bk, 0, none⟩) 2 2) (.slice none 0 0)).toArray) (Hl ++ G ++ [(bk, .cells (a ++ c).toArray 38 (0, 0))]) := by
 have hn : Nb bk G := Nb.of fun e he => hb e (List.mem_append_right _ he)
 rw [List.append_assoc]
 exact hk _ _ (fun hP => RepP.mono (fun b o h => rdObj_tail h hn.all) (rep_two (T := 38) hF hn hop (ra hP) (rc hP))) ⟨⟨rfl, rfl, rfl, rfl⟩, sd.1.app (Dj.iff.2 fun e he e' he' => by rw [List.mem_singleton.1 he']; exact (hb e (List.mem_append_left _ he)).symm), fun _ _ => rdObj_app1, sd.2.app (Wk.cb Wk.nil trivial) fun e he e' he' => by rw [List.mem_singleton.1 he']; exact (hn.all e he).symm⟩
theorem mk_one {op : Int} {a : List Value} {x : Ex'} {P : Prop} (hop : I64 op) (ra : P → RepP (rdObj F G) a x) (sd : Dj Hl G ∧ Wk G)
  (hk : ∀ cs G', (P → RepP (rdObj F G') cs (oneX' op [] x)) → Ok12 cs ∧ Dj Hl G' ∧ (∀ b o, rdObj F G b = some o → rdObj F G' b = some o) ∧ Wk G' → K (.agg cs.toArray) (Hl ++ G')) {bk : Nat} (hF : F bk = none) (hb : ∀ e ∈ Hl ++ G, e.1 ≠ bk) :
  K (.agg (xcells op lv0 (.slice none 0 0) (.slice none 0 0) [] (.slice (some ⟨bk, 0, none⟩) 1 1) (.slice none 0 0)).toArray) (Hl ++ G ++ [(bk, .cells a.toArray 38 (0, 0))]) := by
 have hn : Nb bk G := Nb.of fun e he => hb e (List.mem_append_right _ he)
 rw [List.append_assoc]
 exact hk _ _ (fun hP => RepP.mono (fun b o h => rdObj_tail h hn.all) (rep_one (T := 38) hF hn hop (ra hP))) ⟨⟨rfl, rfl, rfl, rfl⟩, sd.1.app (Dj.iff.2 fun e he e' he' => by rw [List.mem_singleton.1 he']; exact (hb e (List.mem_append_left _ he)).symm), fun _ _ => rdObj_app1, sd.2.app (Wk.cb Wk.nil trivial) fun e he e' he' => by rw [List.mem_singleton.1 he']; exact (hn.all e he).symm⟩
theorem CallE.pair {op : Int} {a c : List Value} {x y : Ex'} {P : Prop} [tl : Tl H Hl G] (hop : I64 op) (ra : P → RepP (rdObj F G) a x) (rc : P → RepP (rdObj F G) c y) (ha : Ok12 a) (hc : Ok12 c) (sd : Dj Hl G ∧ Wk G)
  (hk : ∀ cs G', (P → RepP (rdObj F G') cs (twoX op x y)) → Ok12 cs ∧ Dj Hl G' ∧ (∀ b o, rdObj F G b = some o → rdObj F G' b = some o) ∧ Wk G' → K (.agg cs.toArray) (Hl ++ G')) :
  @CallE Tryz.prog X F w0 74 #[.int .i64 op, .agg a.toArray, .agg c.toArray] H ⟨K⟩ := by
 obtain rfl := tl.eq
 refine CallE.news (rpair_does (rdObj F (Hl ++ G)) op a c ha.1 hc.1) ?_
 rintro v H' ⟨bk, rfl, rfl⟩ h2 h3 _
 exact mk_two hop ra rc sd hk (h2 _ (List.mem_singleton.2 rfl)) fun e he => (h3 e he _ (List.mem_singleton.2 rfl)).symm
theorem CallE.alone {op : Int} {a : List Value} {x : Ex'} {P : Prop} [tl : Tl H Hl G] (hop : I64 op) (ra : P → RepP (rdObj F G) a x) (ha : Ok12 a) (sd : Dj Hl G ∧ Wk G)
  (hk : ∀ cs G', (P → RepP (rdObj F G') cs (oneX' op [] x)) → Ok12 cs ∧ Dj Hl G' ∧ (∀ b o, rdObj F G b = some o → rdObj F G' b = some o) ∧ Wk G' → K (.agg cs.toArray) (Hl ++ G')) :
  @CallE Tryz.prog X F w0 95 #[.int .i64 op, .agg a.toArray] H ⟨K⟩ := by
 obtain rfl := tl.eq
 refine CallE.news (ralone_does (rdObj F (Hl ++ G)) op a ha.1) ?_
 rintro v H' ⟨bk, rfl, rfl⟩ h2 h3 _
 exact mk_one hop ra sd hk (h2 _ (List.mem_singleton.2 rfl)) fun e he => (h3 e he _ (List.mem_singleton.2 rfl)).symm
theorem CallN.pair {op : Int} {a c : List Value} {x y : Ex'} {P : Prop} [tl : Tl H Hl G] (hop : I64 op) (ra : P → RepP (rdObj F G) a x) (rc : P → RepP (rdObj F G) c y) (ha : Ok12 a) (hc : Ok12 c) (sd : Dj Hl G ∧ Wk G)
  (hk : ∀ cs G', (P → RepP (rdObj F G') cs (twoX op x y)) → Ok12 cs ∧ Dj Hl G' ∧ (∀ b o, rdObj F G b = some o → rdObj F G' b = some o) ∧ Wk G' → K (.agg cs.toArray) (Hl ++ G')) :
  @CallN Tryz.prog X F w0 74 #[.int .i64 op, .agg a.toArray, .agg c.toArray] H ⟨K⟩ := by
 obtain rfl := tl.eq
 refine CallN.news (rpair_does (rdObj F (Hl ++ G)) op a c ha.1 hc.1) ?_
 rintro v H' ⟨bk, rfl, rfl⟩ h2 h3 _
 exact mk_two hop ra rc sd hk (h2 _ (List.mem_singleton.2 rfl)) fun e he => (h3 e he _ (List.mem_singleton.2 rfl)).symm
theorem CallN.alone {op : Int} {a : List Value} {x : Ex'} {P : Prop} [tl : Tl H Hl G] (hop : I64 op) (ra : P → RepP (rdObj F G) a x) (ha : Ok12 a) (sd : Dj Hl G ∧ Wk G)
  (hk : ∀ cs G', (P → RepP (rdObj F G') cs (oneX' op [] x)) → Ok12 cs ∧ Dj Hl G' ∧ (∀ b o, rdObj F G b = some o → rdObj F G' b = some o) ∧ Wk G' → K (.agg cs.toArray) (Hl ++ G')) :
  @CallN Tryz.prog X F w0 95 #[.int .i64 op, .agg a.toArray] H ⟨K⟩ := by
 obtain rfl := tl.eq
 refine CallN.news (ralone_does (rdObj F (Hl ++ G)) op a ha.1) ?_
 rintro v H' ⟨bk, rfl, rfl⟩ h2 h3 _
 exact mk_one hop ra sd hk (h2 _ (List.mem_singleton.2 rfl)) fun e he => (h3 e he _ (List.mem_singleton.2 rfl)).symm
end
theorem RFin.m {F : Base} {l : Value} {p' s' : St} {x : Ex'} {cs : List Value} {H : Hp} (Hx : Hp) (hA : Agr p' s') (hc : Ok12 cs) (hr : s'.e = 0 → RepP (rdObj F Hx) cs x) (w : Wk Hx) (hs : ∀ e ∈ Hx, e ∈ H) : RFin F l x s' (.tuple #[PV l p', .agg cs.toArray]) H := ⟨p', cs, Hx, hA, rfl, hc, hr, w, hs⟩
theorem RFin.g {F : Base} {l : Value} {p' s' : St} {x : Ex'} {cs : List Value} {H Hl G : Hp} [tl : Tl H Hl G] (hA : Agr p' s') (hc : Ok12 cs) (hr : s'.e = 0 → RepP (rdObj F G) cs x) (w : Wk G) : RFin F l x s' (.tuple #[PV l p', .agg cs.toArray]) H := .m G hA hc hr w fun e he => by rw [tl.eq]; exact List.mem_append_right _ he
theorem downS_agr {ws : Ws} {p s : St} (h : Agr p s) (hg : Good s) : Agr (downS ws p) (if 50 ≤ s.deep then failS ws s 11 else inn s) := by
 unfold downS
 by_cases he : s.e = 0
 ·obtain rfl := h.ok he
  have := hg he
  by_cases hd : 50 ≤ p.deep
  ·rw [if_pos hd, if_pos hd]; exact .inr ⟨failS_e (by decide), rfl, rfl⟩
  ·rw [if_neg hd, if_neg hd]
   refine .inl ?_
   unfold inn
   congr 1
   rw [wrap_i64]; omega
 ·have e1 : (if 50 ≤ p.deep then failS ws p 11 else p) = p := by split; exact failS_err (by rw [h.e]; exact he); rfl
  have e2 : (if 50 ≤ s.deep then failS ws s 11 else inn s).e = s.e ∧ (if 50 ≤ s.deep then failS ws s 11 else inn s).bad = s.bad := by
   split
   ·rw [failS_err he]; exact ⟨rfl, rfl⟩
   ·exact ⟨rfl, rfl⟩
  rw [e1]
  exact .inr ⟨by rw [e2.1]; exact he, by rw [e2.1]; exact h.e, by rw [e2.2]; exact h.bad⟩
theorem rUid_pure (F : Base) {ws : Ws} (hws : WsOk ws) {l : Value} (hW : HasW F ws l) (p : St) (hp : PureV Tryz.prog F 53 #[PV l p] (.tuple #[PV l (pathS ws p).2, .string (bs (pathS ws p).1)])) :
  PureV Tryz.prog F 26 #[PV l p] (.tuple #[PV l (uidS ws p).2, .agg #[.string (bs (uidS ws p).1.1), .string (bs (uidS ws p).1.2)]]) := by
 have hol := hW.one'
 refine pureV_of_svc (args := [PV _ p]) mixed Tryz.func26 low26 (Nat.le_of_ble_eq_true rfl) (fun w0 => ?_)
 unfold uidS
 simp (disch := first | assumption | exact Ne.symm (by assumption) | omega) only [fu26, hol, ↓ZD, ZW, simprocAttr]
 refine NewB.of fun b1 hb1 hF1 => ?_
 simp (disch := first | assumption | exact Ne.symm (by assumption) | omega) only [hF1, hol, ↓ZD, ZW, simprocAttr]
 refine NewB.of fun b2 hb2 hF2 => ?_
 simp only [List.forall_mem_cons, List.not_mem_nil, false_implies, implies_true, and_true] at hb2
 simp (disch := first | assumption | exact Ne.symm (by assumption) | omega) only [hF1, hF2, hol, ↓ZD, ZW, simprocAttr]
 refine NewB.of fun b3 hb3 hF3 => ?_
 simp only [List.forall_mem_cons, List.not_mem_nil, false_implies, implies_true, and_true] at hb3
 obtain ⟨n23, n13⟩ := hb3
 simp (disch := first | assumption | exact Ne.symm (by assumption) | omega) only [hF1, hF2, hF3, hol, ↓ZD, ZW, simprocAttr]
 refine CallE.pure hp ?_
 simp (disch := first | assumption | exact Ne.symm (by assumption) | omega) only [hF1, hF2, hF3, hol, ↓ZD, ZW, simprocAttr]
 refine CallE.pure (rmust_pure F hW (pathS ws p).2 [58, 58]) ?_
 simp (disch := first | assumption | exact Ne.symm (by assumption) | omega) only [hF1, hF2, hF3, hol, ↓ZD, ZW, simprocAttr]
 refine CallE.pure (rtake_pure F hW (mustS ws (pathS ws p).2 [58, 58]) 3 (by decide)) ?_
 simp (disch := first | assumption | exact Ne.symm (by assumption) | omega) only [hF1, hF2, hF3, hol, ↓ZD, ZW, simprocAttr]
 done
end Go.Proofs.YtkbhinfpndnnfaaGreatDoor
namespace Go.Proofs.YtkbhinfpndnnfaaGreatDoor
open Go Go.Eng
set_option maxHeartbeats 1000000
set_option linter.unusedSimpArgs false
set_option linter.unusedVariables false
set_option maxRecDepth 20000
theorem rpath_pure (F : Base) {ws : Ws} (hws : WsOk ws) {l : Value} (hW : HasW F ws l) (p : St) : PureV Tryz.prog F 53 #[PV l p] (.tuple #[PV l (pathS ws p).2, .string (bs (pathS ws p).1)]) := by
 have hol := hW.one'
 have hlen := hW.len
 refine pureV_of_svc (args := [PV _ p]) mixed Tryz.func53 low53 (Nat.le_of_ble_eq_true rfl) (fun w0 => ?_)
 simp (disch := first | assumption | exact Ne.symm (by assumption) | omega) only [fu53, hol, ↓ZD, ZW, simprocAttr]
 refine NewB.of fun b1 hb1 hF1 => ?_
 simp (disch := first | assumption | exact Ne.symm (by assumption) | omega) only [hF1, hol, ↓ZD, ZW, simprocAttr]
 refine NewB.of fun b2 hb2 hF2 => ?_
 simp only [List.forall_mem_cons, List.not_mem_nil, false_implies, implies_true, and_true] at hb2
 simp (disch := first | assumption | exact Ne.symm (by assumption) | omega) only [hF1, hF2, hol, ↓ZD, ZW, simprocAttr]
 refine CallE.pure (rword_pure F hW p) ?_
 simp (disch := first | assumption | exact Ne.symm (by assumption) | omega) only [hF1, hF2, hol, wf1, wsz, ↓ZD, ZW, simprocAttr]
 refine CallE.pure (rOwn_pure F _) ?_
 simp (disch := first | assumption | exact Ne.symm (by assumption) | omega) only [hF1, hF2, hol, ↓ZD, ZW, simprocAttr]
 refine ⟨fun h => ?_, fun h => ?_⟩
 ·refine CallE.pure (rfail_pure F hW p 10) ?_
  simp (disch := first | assumption | exact Ne.symm (by assumption) | omega) only [hF1, hF2, hol, ↓ZD, ZW, simprocAttr]
  have hq : (if wtx ws p ∈ ownL then failS ws p 10 else p) = failS ws p 10 := if_pos (of_decide_eq_true h)
  refine CallE.pure (rtake_pure F hW (failS ws p 10) 1 (by decide)) ?_
  simp (disch := first | assumption | exact Ne.symm (by assumption) | omega) only [hF1, hF2, hol, ↓ZD, ZW, simprocAttr]
  rw [show pathS ws p = pathT ws (takeS ws (failS ws p 10) 1) from by unfold pathS; rw [hq]]
  have hI0 := pathI0 hws (failS ws p 10)
  revert hI0
  generalize pathT ws (takeS ws (failS ws p 10) 1) = X
  generalize (takeS ws (failS ws p 10) 1).1 = o0
  generalize (takeS ws (failS ws p 10) 1).2 = q0
  intro hI0
  refine LoopL.inv (α := St × Str) (PathI ws X) (fun y => [(1, some (.pointer (some ⟨b1, 0, none⟩))), (2, some (.pointer (some ⟨b2, 0, none⟩))), (4, some (.string (bs y.2)))]) (fun y => [(b2, .cells #[Value.slice none 0 0, Value.int IntKind.i64 0, Value.int IntKind.i64 0, Value.int IntKind.i64 0, Value.int IntKind.i64 0] 68 (0, 0)), (b1, .cells #[l, .int .i64 y.1.p, .int .i64 y.1.deep, .int .i64 y.1.e, .int .i64 y.1.bad] 68 (0, 0))]) (fun y => ws.length - y.1.p.toNat) (q0, o0) hI0 (by (simp (disch := first | assumption | exact Ne.symm (by assumption) | omega) only [↓ZD, ZW, simprocAttr]; try trivial)) (by (try (simp (disch := first | assumption | exact Ne.symm (by assumption) | omega) only [↓ZD, ZW, simprocAttr]); try trivial)) ?_
  rintro ⟨q, o⟩ hI
  unfold PathI at hI
  dsimp only at hI
  rcases hI with ⟨he, hX⟩ | ⟨he, h0, h1, ho, hX⟩
  ·have hd : (q.e == 0) = false := by simpa using he
   subst hX
   simp (disch := first | assumption | exact Ne.symm (by assumption) | omega) only [hd, hF1, hF2, hol, ↓ZD, ZW, simprocAttr]
   refine CallQ.of (.bool false) trivial ?_
   simp (disch := first | assumption | exact Ne.symm (by assumption) | omega) only [hd, hF1, hF2, hol, ↓ZD, ZW, simprocAttr]
   refine CallQ.of (.agg (wdV (wdAt ws 0).1 (wdAt ws 0).2).toArray) trivial ?_
   simp (disch := first | assumption | exact Ne.symm (by assumption) | omega) only [hd, hF1, hF2, hol, wf0, wsz, ↓ZD, ZW, simprocAttr]
  ·have hd : (q.e == 0) = true := by simpa using he
   obtain ⟨j, hj⟩ : ∃ j : Nat, q.p = j := ⟨q.p.toNat, by omega⟩
   have hj2 : q.p.toNat = j := by omega
   rw [hj2] at hX
   simp (disch := first | assumption | exact Ne.symm (by assumption) | omega) only [hd, hF1, hF2, hol, ↓ZD, ZW, simprocAttr]
   refine CallQ.of _ (rIs_pure _ (hW.mono le_up) q [58, 58]) ?_
   cases hi : isS ws q [58, 58] with
   | false =>
    rw [path_no hj2 (.inl ⟨he, h0, hi⟩)] at hX
    subst hX
    simp (disch := first | assumption | exact Ne.symm (by assumption) | omega) only [hd, hF1, hF2, hol, hi, ↓ZD, ZW, simprocAttr]
    refine CallQ.of (.agg (wdV (wdAt ws 0).1 (wdAt ws 0).2).toArray) trivial ?_
    simp (disch := first | assumption | exact Ne.symm (by assumption) | omega) only [hd, hF1, hF2, hol, hi, wf0, wsz, List.append_nil, Int.add_zero, Int.cast_ofNat_Int, ↓ZD, ZW, simprocAttr]
   | true =>
    have hr := isS_range hi
    have hw1 : IntKind.i64.wrap (q.p + 1) = q.p + 1 := by rw [wrap_i64]; omega
    simp (disch := first | assumption | exact Ne.symm (by assumption) | omega) only [hd, hF1, hF2, hol, hi, ↓ZD, ZW, simprocAttr]
    refine CallQ.of _ (rbehind_pure _ (hW.mono le_up) q hr) ?_
    simp (disch := first | assumption | exact Ne.symm (by assumption) | omega) only [hd, hF1, hF2, hol, hi, wf0, wsz, ↓ZD, ZW, simprocAttr]
    refine ⟨fun hk => ?_, fun hk => ?_⟩
    ·have hk := beq_iff_eq.1 hk
     have hlt : j + 1 < ws.length := by
      have := in_range (ws := ws) (p := q.p + 1) (by omega)
      omega
     rw [show q.p + 1 = ((j + 1 : Nat) : Int) by omega, wdAt_in hlt] at hk
     rw [path_yes he hj hi hlt hk] at hX
     have hta : takeS ws (adv q) 1 = ((ws.getD (j + 1) ((0, [], 0), 0)).1.2.1, adv (adv q)) := by
      have e : wdAt ws (adv q).p = ws.getD (j + 1) ((0, [], 0), 0) := by rw [show (adv q).p = ((j + 1 : Nat) : Int) by show q.p + 1 = _; omega, wdAt_in hlt]
      unfold takeS; rw [if_pos ⟨he, by unfold wk; rw [e]; exact hk⟩]; unfold wtx; rw [e]
     have hlen2 := (wdAt_ok hws (adv q).p).1
     rw [show (adv q).p = ((j + 1 : Nat) : Int) by show q.p + 1 = _; omega, wdAt_in hlt] at hlen2
     have htk := rtake_pure F hW (adv q) 1 (by decide)
     rw [hta] at htk
     generalize (ws.getD (j + 1) ((0, [], 0), 0)).1.2.1 = t at *
     have h65 := hws.1
     refine CallE.pure htk ?_
     simp (disch := first | assumption | exact Ne.symm (by assumption) | omega) only [hd, hF1, hF2, hol, ↓ZD, ZW, simprocAttr]
     refine conj.of (by omega) ?_
     simp (disch := first | assumption | exact Ne.symm (by assumption) | omega) only [hd, hF1, hF2, hol, ↓ZD, ZW, simprocAttr]
     refine conj.of (by omega) ?_
     simp (disch := first | assumption | exact Ne.symm (by assumption) | omega) only [hd, hF1, hF2, hol, ↓ZD, ZW, simprocAttr]
     refine invK.on (adv (adv q), o ++ ([58, 58] ++ t)) ?_ ?_ ?_ ?_
     ·refine .inr ⟨he, by show (0 : Int) ≤ q.p + 1 + 1; omega, by show q.p + 1 + 1 ≤ (ws.length : Int); omega, ?_, ?_⟩
      ·show (o ++ ([58, 58] ++ t)).length ≤ 65538 * (q.p + 1 + 1).toNat
       simp only [List.length_append, List.length_cons, List.length_nil]; omega
      ·rw [hX, show (adv (adv q)).p.toNat = j + 2 by show (q.p + 1 + 1).toNat = _; omega]
       refine Prod.ext (by simp) ?_
       show (⟨_, _, _, _⟩ : St) = ⟨_, _, _, _⟩
       congr 1
       show q.p + ((pathL (ws.drop (j + 2))).2 + 2 : Nat) = q.p + 1 + 1 + ((pathL (ws.drop (j + 2))).2 : Nat)
       omega
     ·show ws.length - (q.p + 1 + 1).toNat < ws.length - q.p.toNat
      omega
     ·simp only [Le_nil, Le_cons]; simp (disch := first | assumption | exact Ne.symm (by assumption) | omega) only [↓ZD, ZW, simprocAttr]; try trivial
     ·simp only [HLe_nil, HLe_cons]; try (simp (disch := first | assumption | exact Ne.symm (by assumption) | omega) only [↓ZD, ZW, simprocAttr])
    ·have hk := beq_eq_false_iff_ne.1 hk
     have hno : ¬ j + 1 < ws.length ∨ ((ws.getD (j + 1) ((0, [], 0), 0)).1.1 : Int) ≠ 1 := by
      by_cases hlt : j + 1 < ws.length
      ·rw [show q.p + 1 = ((j + 1 : Nat) : Int) by omega, wdAt_in hlt] at hk
       exact .inr hk
      ·exact .inl hlt
     rw [path_no hj2 (.inr hno)] at hX
     subst hX
     simp (disch := first | assumption | exact Ne.symm (by assumption) | omega) only [hd, hF1, hF2, hol, hi, List.append_nil, Int.add_zero, Int.cast_ofNat_Int, ↓ZD, ZW, simprocAttr]
 ·have hq : (if wtx ws p ∈ ownL then failS ws p 10 else p) = p := if_neg (of_decide_eq_false h)
  refine CallE.pure (rtake_pure F hW (p) 1 (by decide)) ?_
  simp (disch := first | assumption | exact Ne.symm (by assumption) | omega) only [hF1, hF2, hol, ↓ZD, ZW, simprocAttr]
  rw [show pathS ws p = pathT ws (takeS ws (p) 1) from by unfold pathS; rw [hq]]
  have hI0 := pathI0 hws (p)
  revert hI0
  generalize pathT ws (takeS ws (p) 1) = X
  generalize (takeS ws (p) 1).1 = o0
  generalize (takeS ws (p) 1).2 = q0
  intro hI0
  refine LoopL.inv (α := St × Str) (PathI ws X) (fun y => [(1, some (.pointer (some ⟨b1, 0, none⟩))), (2, some (.pointer (some ⟨b2, 0, none⟩))), (4, some (.string (bs y.2)))]) (fun y => [(b2, .cells #[Value.slice none 0 0, Value.int IntKind.i64 0, Value.int IntKind.i64 0, Value.int IntKind.i64 0, Value.int IntKind.i64 0] 68 (0, 0)), (b1, .cells #[l, .int .i64 y.1.p, .int .i64 y.1.deep, .int .i64 y.1.e, .int .i64 y.1.bad] 68 (0, 0))]) (fun y => ws.length - y.1.p.toNat) (q0, o0) hI0 (by (simp (disch := first | assumption | exact Ne.symm (by assumption) | omega) only [↓ZD, ZW, simprocAttr]; try trivial)) (by (try (simp (disch := first | assumption | exact Ne.symm (by assumption) | omega) only [↓ZD, ZW, simprocAttr]); try trivial)) ?_
  rintro ⟨q, o⟩ hI
  unfold PathI at hI
  dsimp only at hI
  rcases hI with ⟨he, hX⟩ | ⟨he, h0, h1, ho, hX⟩
  ·have hd : (q.e == 0) = false := by simpa using he
   subst hX
   simp (disch := first | assumption | exact Ne.symm (by assumption) | omega) only [hd, hF1, hF2, hol, ↓ZD, ZW, simprocAttr]
   refine CallQ.of (.bool false) trivial ?_
   simp (disch := first | assumption | exact Ne.symm (by assumption) | omega) only [hd, hF1, hF2, hol, ↓ZD, ZW, simprocAttr]
   refine CallQ.of (.agg (wdV (wdAt ws 0).1 (wdAt ws 0).2).toArray) trivial ?_
   simp (disch := first | assumption | exact Ne.symm (by assumption) | omega) only [hd, hF1, hF2, hol, wf0, wsz, ↓ZD, ZW, simprocAttr]
  ·have hd : (q.e == 0) = true := by simpa using he
   obtain ⟨j, hj⟩ : ∃ j : Nat, q.p = j := ⟨q.p.toNat, by omega⟩
   have hj2 : q.p.toNat = j := by omega
   rw [hj2] at hX
   simp (disch := first | assumption | exact Ne.symm (by assumption) | omega) only [hd, hF1, hF2, hol, ↓ZD, ZW, simprocAttr]
   refine CallQ.of _ (rIs_pure _ (hW.mono le_up) q [58, 58]) ?_
   cases hi : isS ws q [58, 58] with
   | false =>
    rw [path_no hj2 (.inl ⟨he, h0, hi⟩)] at hX
    subst hX
    simp (disch := first | assumption | exact Ne.symm (by assumption) | omega) only [hd, hF1, hF2, hol, hi, ↓ZD, ZW, simprocAttr]
    refine CallQ.of (.agg (wdV (wdAt ws 0).1 (wdAt ws 0).2).toArray) trivial ?_
    simp (disch := first | assumption | exact Ne.symm (by assumption) | omega) only [hd, hF1, hF2, hol, hi, wf0, wsz, List.append_nil, Int.add_zero, Int.cast_ofNat_Int, ↓ZD, ZW, simprocAttr]
   | true =>
    have hr := isS_range hi
    have hw1 : IntKind.i64.wrap (q.p + 1) = q.p + 1 := by rw [wrap_i64]; omega
    simp (disch := first | assumption | exact Ne.symm (by assumption) | omega) only [hd, hF1, hF2, hol, hi, ↓ZD, ZW, simprocAttr]
    refine CallQ.of _ (rbehind_pure _ (hW.mono le_up) q hr) ?_
    simp (disch := first | assumption | exact Ne.symm (by assumption) | omega) only [hd, hF1, hF2, hol, hi, wf0, wsz, ↓ZD, ZW, simprocAttr]
    refine ⟨fun hk => ?_, fun hk => ?_⟩
    ·have hk := beq_iff_eq.1 hk
     have hlt : j + 1 < ws.length := by
      have := in_range (ws := ws) (p := q.p + 1) (by omega)
      omega
     rw [show q.p + 1 = ((j + 1 : Nat) : Int) by omega, wdAt_in hlt] at hk
     rw [path_yes he hj hi hlt hk] at hX
     have hta : takeS ws (adv q) 1 = ((ws.getD (j + 1) ((0, [], 0), 0)).1.2.1, adv (adv q)) := by
      have e : wdAt ws (adv q).p = ws.getD (j + 1) ((0, [], 0), 0) := by rw [show (adv q).p = ((j + 1 : Nat) : Int) by show q.p + 1 = _; omega, wdAt_in hlt]
      unfold takeS; rw [if_pos ⟨he, by unfold wk; rw [e]; exact hk⟩]; unfold wtx; rw [e]
     have hlen2 := (wdAt_ok hws (adv q).p).1
     rw [show (adv q).p = ((j + 1 : Nat) : Int) by show q.p + 1 = _; omega, wdAt_in hlt] at hlen2
     have htk := rtake_pure F hW (adv q) 1 (by decide)
     rw [hta] at htk
     generalize (ws.getD (j + 1) ((0, [], 0), 0)).1.2.1 = t at *
     have h65 := hws.1
     refine CallE.pure htk ?_
     simp (disch := first | assumption | exact Ne.symm (by assumption) | omega) only [hd, hF1, hF2, hol, ↓ZD, ZW, simprocAttr]
     refine conj.of (by omega) ?_
     simp (disch := first | assumption | exact Ne.symm (by assumption) | omega) only [hd, hF1, hF2, hol, ↓ZD, ZW, simprocAttr]
     refine conj.of (by omega) ?_
     simp (disch := first | assumption | exact Ne.symm (by assumption) | omega) only [hd, hF1, hF2, hol, ↓ZD, ZW, simprocAttr]
     refine invK.on (adv (adv q), o ++ ([58, 58] ++ t)) ?_ ?_ ?_ ?_
     ·refine .inr ⟨he, by show (0 : Int) ≤ q.p + 1 + 1; omega, by show q.p + 1 + 1 ≤ (ws.length : Int); omega, ?_, ?_⟩
      ·show (o ++ ([58, 58] ++ t)).length ≤ 65538 * (q.p + 1 + 1).toNat
       simp only [List.length_append, List.length_cons, List.length_nil]; omega
      ·rw [hX, show (adv (adv q)).p.toNat = j + 2 by show (q.p + 1 + 1).toNat = _; omega]
       refine Prod.ext (by simp) ?_
       show (⟨_, _, _, _⟩ : St) = ⟨_, _, _, _⟩
       congr 1
       show q.p + ((pathL (ws.drop (j + 2))).2 + 2 : Nat) = q.p + 1 + 1 + ((pathL (ws.drop (j + 2))).2 : Nat)
       omega
     ·show ws.length - (q.p + 1 + 1).toNat < ws.length - q.p.toNat
      omega
     ·simp only [Le_nil, Le_cons]; simp (disch := first | assumption | exact Ne.symm (by assumption) | omega) only [↓ZD, ZW, simprocAttr]; try trivial
     ·simp only [HLe_nil, HLe_cons]; try (simp (disch := first | assumption | exact Ne.symm (by assumption) | omega) only [↓ZD, ZW, simprocAttr])
    ·have hk := beq_eq_false_iff_ne.1 hk
     have hno : ¬ j + 1 < ws.length ∨ ((ws.getD (j + 1) ((0, [], 0), 0)).1.1 : Int) ≠ 1 := by
      by_cases hlt : j + 1 < ws.length
      ·rw [show q.p + 1 = ((j + 1 : Nat) : Int) by omega, wdAt_in hlt] at hk
       exact .inr hk
      ·exact .inl hlt
     rw [path_no hj2 (.inr hno)] at hX
     subst hX
     simp (disch := first | assumption | exact Ne.symm (by assumption) | omega) only [hd, hF1, hF2, hol, hi, List.append_nil, Int.add_zero, Int.cast_ofNat_Int, ↓ZD, ZW, simprocAttr]
end Go.Proofs.YtkbhinfpndnnfaaGreatDoor
namespace Go.Proofs.YtkbhinfpndnnfaaGreatDoor
open Go Go.Eng
set_option maxHeartbeats 1000000
set_option linter.unusedSimpArgs false
set_option linter.unusedVariables false
set_option maxRecDepth 20000
theorem enter {ws : Ws} {R : St → Option (Ex' × St)} (hgo : ∀ s y, R s = some y → Fwd 0 s y.2) {p s s' : St} {x : Ex'} (h : nestR ws R s = some (x, s')) (hA : Agr p s) (hg : Good s) :
  ((downS ws p).e ≠ 0 ∧ Agr (downS ws p) s' ∧ s'.e ≠ 0) ∨ (downS ws p = inn p ∧ Good (inn p) ∧ ∃ t, R (inn p) = some (x, t) ∧ Fwd 0 (inn p) t ∧ s' = out1 t ∧ p = s ∧ s.e = 0) := by
 have hd := downS_agr (ws := ws) hA hg
 unfold nestR at h
 by_cases he : s.e = 0
 ·obtain rfl := hA.ok he
  rw [if_pos he] at h
  by_cases h50 : 50 ≤ p.deep
  ·rw [if_pos h50] at h hd
   simp only [Option.some.injEq, Prod.mk.injEq] at h
   obtain ⟨-, rfl⟩ := h
   have e1 : (failS ws p 11).e ≠ 0 := failS_e (by decide)
   exact .inl ⟨by rw [hd.e]; exact e1, hd, e1⟩
  ·rw [if_neg h50] at h hd
   obtain ⟨⟨x1, t⟩, h1, h2⟩ := map_some' h
   simp only [Prod.mk.injEq] at h2
   obtain ⟨rfl, rfl⟩ := h2
   have := hg he
   exact .inr ⟨hd.ok he, fun _ => by show 0 ≤ p.deep + 1 ∧ p.deep + 1 ≤ 50; omega, t, h1, hgo _ _ h1, rfl, rfl, he⟩
 ·rw [if_neg he] at h
  simp only [Option.some.injEq, Prod.mk.injEq] at h
  obtain ⟨-, rfl⟩ := h
  have e1 : (if 50 ≤ s.deep then failS ws s 11 else inn s).e = s.e ∧ (if 50 ≤ s.deep then failS ws s 11 else inn s).bad = s.bad := by
   split
   ·rw [failS_err he]; exact ⟨rfl, rfl⟩
   ·exact ⟨rfl, rfl⟩
  exact .inl ⟨by rw [hd.e, e1.1]; exact he, .inr ⟨he, by rw [hd.e, e1.1], by rw [hd.bad, e1.2]⟩, he⟩
theorem rexpr_prs (F : Base) {ws : Ws} (hws : WsOk ws) {l : Value} (hW : HasW F ws l) (k : NT → St → Option (Ex' × St)) (hgo : GoesOn k) (h1 : RPrs F l 24 [] (k .expr)) (h2 : RPrs F l 49 [.int .i64 0] (k (.lev 0))) : RPrs F l 24 [] (nestR ws (choiceG ws k)) := by
 intro F' hFF p s x s' hA hg hR
 have hW := hW.mono hFF
 have hol := hW.one'
 refine Does.rfin (does_of_svc (args := [PV l p]) mixed Tryz.func24 low24 (Nat.le_of_ble_eq_true rfl) fun w0 hw0 => ?_)
 simp only [*, fu24, ↓ZD, ZW, RO, simprocAttr]
 refine NewB.n ?_
 rintro b1 _ _
 simp only [*, ↓ZD, ZW, RO, simprocAttr]
 refine NewB.n ?_
 rintro b2 ⟨_, _, _⟩ _
 simp only [*, ↓ZD, ZW, RO, simprocAttr]
 refine NewB.n ?_
 rintro b3 ⟨_, _, _, _, _⟩ _
 simp only [*, ↓ZD, ZW, RO, simprocAttr]
 refine CallE.pure (rdown_pure _ hW p) ?_
 rcases enter (fun s y => goes_choice hgo) hR hA hg with ⟨he, hAq, he'⟩ | ⟨hq, hgq, t, hR, hf, rfl, rfl, he'⟩
 ·generalize downS ws p = q at *
  have hd : (q.e != 0) = true := by simpa using he
  simp only [*, ↓ZD, ZW, RO, simprocAttr]
  exact RFin.m [] hAq ⟨rfl, rfl, rfl, rfl⟩ (fun h => absurd h he') Wk.nil all_nil
 rw [hq]
 have hd : ((inn p).e != 0) = false := by show (p.e != 0) = false; simpa using he'
 have hqe : (inn p).e = p.e ∧ (inn p).deep = p.deep + 1 := ⟨rfl, rfl⟩
 clear hq
 generalize inn p = q at *
 have hf2 : t.e = 0 → p.e = 0 ∧ t.deep = p.deep + 1 := fun he => ⟨hqe.1 ▸ (hf he).1, (hf he).2.2.trans hqe.2⟩
 clear hf hqe
 simp only [*, ↓ZD, ZW, RO, simprocAttr]
 refine NewB.n ?_
 rintro b4 ⟨_, _, _, _, _, _, _⟩ _
 simp only [*, ↓ZD, ZW, RO, simprocAttr]
 refine CallE.pure (rIs_pure _ hW q [105, 102]) ?_
 unfold choiceG at hR
 rcases tf (isS ws q [105, 102]) with hi | hi
 ·have hlen := hW.len
  have hrg := isS_range hi
  have hw1 : IntKind.i64.wrap (q.p + 1) = q.p + 1 := by rw [wrap_i64]; omega
  rw [hi, if_pos rfl] at hR
  obtain ⟨⟨x1, s1⟩, hR1, hR⟩ := bind_some hR
  obtain ⟨⟨x2, s2⟩, hR2, hR⟩ := bind_some hR
  obtain ⟨⟨x3, s3⟩, hR3, hR⟩ := map_some' hR
  simp only [Prod.mk.injEq] at hR
  obtain ⟨rfl, rfl⟩ := hR
  simp only at hR2 hR3
  have hg1 := hgq.adv.fwd (hgo _ _ _ hR1)
  have hg2 := hg1.must.fwd (hgo _ _ _ hR2)
  have h3a : s3.e = 0 → s2.e = 0 := fun he => must_e (hgo _ _ _ hR3 he).1
  have h2a : s3.e = 0 → s1.e = 0 := fun he => must_e (hgo _ _ _ hR2 (h3a he)).1
  simp only [*, ↓ZD, ZW, RO, simprocAttr]
  refine NewB.n ?_
  rintro b5 ⟨_, _, _, _, _, _, _, _, _⟩ _
  simp only [*, ↓ZD, ZW, RO, simprocAttr]
  refine NewB.n ?_
  rintro b6 ⟨_, _, _, _, _, _, _, _, _, _, _⟩ _
  simp only [*, ↓ZD, ZW, RO, simprocAttr]
  refine NewB.n ?_
  rintro b7 ⟨_, _, _, _, _, _, _, _, _, _, _, _, _⟩ _
  simp only [*, ↓ZD, ZW, RO, simprocAttr]
  refine CallE.rq (p := adv q) (s := adv q) (h1.mono hFF) Agr.rfl' hgq.adv hR1 (by simp only [*, ↓ZD, ZW, RO, simprocAttr]) ?_
  rintro p1 cs1 G1 hA1 hr1 ⟨_, ⟨_, _, _, _, _, _, _, _⟩, hx1, _⟩
  simp only [*, ↓ZD, ZW, RO, simprocAttr]
  refine CallE.pure (rmust_pure _ hW p1 [116, 104, 101, 110]) ?_
  simp only [*, ↓ZD, ZW, RO, simprocAttr]
  refine CallE.rq (h1.mono hFF) hA1.must hg1.must hR2 (by simp only [*, ↓ZD, ZW, RO, simprocAttr]) ?_
  rintro p2 cs2 G2 hA2 hr2 ⟨_, ⟨_, _, _, _, _, _, _, _⟩, hx2, _⟩
  simp only [*, ↓ZD, ZW, RO, simprocAttr]
  refine CallE.pure (rmust_pure _ hW p2 [101, 108, 115, 101]) ?_
  simp only [*, ↓ZD, ZW, RO, simprocAttr]
  refine CallE.rq (h1.mono hFF) hA2.must hg2.must hR3 (by simp only [*, ↓ZD, ZW, RO, simprocAttr]) ?_
  rintro p3 cs3 G3 hA3 hr3 ⟨_, ⟨_, _, _, _, _, _, _, _⟩, hx3, _⟩
  have c1 := ‹Ok12 cs1›
  have c2 := ‹Ok12 cs2›
  have c3 := ‹Ok12 cs3›
  simp only [*, tk12 c1, tk24 c1, dr12 c1, dr24 c1, dr36 c1, tk12 c2, tk24 c2, dr12 c2, dr24 c2, dr36 c2, tk12 c3, tk24 c3, dr12 c3, dr24 c3, dr36 c3, List.append_assoc, ↓ZD, ZW, RO, simprocAttr]
  refine NewB.n ?_
  rintro b8 ⟨_, _, _, _, _, _, _, _, _, _, _, _, _, _, _⟩ _
  simp only [*, ↓ZD, ZW, RO, simprocAttr]
  refine TreeL.open ?_
  simp only [*, ↓ZD, ZW, RO, simprocAttr]
  repeat' (first | exact RFin.m _ (outW_agr hA3 hg hf2) ⟨rfl, rfl, rfl, rfl⟩ (fun he => rep_if (T := 38) ‹_› ‹_› (i64_lit rfl) (((hr1 (h2a he)).mono hx2).mono hx3) ((hr2 (h3a he)).mono hx3) (hr3 he)) (Wk.cb ‹_› ‹_›) (by simp +contextual) | apply And.intro)
 rw [hi, if_neg (by decide)] at hR
 simp only [*, ↓ZD, ZW, RO, simprocAttr]
 refine CallE.rq (p := q) (s := q) (h2.mono hFF) Agr.rfl' hgq hR (by simp only [*, ↓ZD, ZW, RO, simprocAttr]) ?_
 rintro p1 cs1 G1 hA1 hr1 ⟨_, ⟨_, _, _, _, _⟩, hx1, _⟩
 simp only [*, ↓ZD, ZW, RO, simprocAttr]
 refine TreeL.open ?_
 simp only [*, ↓ZD, ZW, RO, simprocAttr]
 repeat' (first | exact RFin.g (outW_agr hA1 hg hf2) ‹_› hr1 ‹_› | apply And.intro)
end Go.Proofs.YtkbhinfpndnnfaaGreatDoor
namespace Go.Proofs.YtkbhinfpndnnfaaGreatDoor
open Go Go.Eng
set_option maxHeartbeats 1000000
set_option linter.unusedSimpArgs false
set_option linter.unusedVariables false
set_option maxRecDepth 20000
theorem rlower0_prs (F : Base) {ws : Ws} {l : Value} (hW : HasW F ws l) (n : Nat) (h1 : RPrs F l 49 [.int .i64 1] (G ws n (.lev 1))) : RPrs F l 73 [.int .i64 0] (G ws n (lowN 0)) := by
 intro F' hFF p s x s' hA hg hR
 have hW := hW.mono hFF
 have hol := hW.one'
 refine Does.rfin (does_of_svc (args := [PV l p, .int .i64 0]) mixed Tryz.func73 low73 (Nat.le_of_ble_eq_true rfl) fun w0 hw0 => ?_)
 simp only [*, fu73, ↓ZD, ZW, RO, simprocAttr]
 refine NewB.n ?_
 rintro b1 _ _
 simp only [*, ↓ZD, ZW, RO, simprocAttr]
 refine NewB.n ?_
 rintro b2 ⟨_, _, _⟩ _
 simp only [*, ↓ZD, ZW, RO, simprocAttr]
 refine NewB.n ?_
 rintro b3 ⟨_, _, _, _, _⟩ _
 simp only [*, ↓ZD, ZW, RO, simprocAttr]
 refine CallE.rq (h1.mono hFF) hA hg hR (by simp only [*, ↓ZD, ZW, RO, simprocAttr]) ?_
 rintro p1 cs1 G1 hA1 hr1 ⟨_, ⟨_, _, _, _⟩, hx1, _⟩
 simp only [*, ↓ZD, ZW, RO, simprocAttr]
 repeat' (first | exact RFin.g hA1 ‹_› hr1 ‹_› | apply And.intro)
theorem rlower1_prs (F : Base) {ws : Ws} {l : Value} (hW : HasW F ws l) (n : Nat) (h1 : RPrs F l 87 [] (G ws n (.rel))) : RPrs F l 73 [.int .i64 1] (G ws n (lowN 1)) := by
 intro F' hFF p s x s' hA hg hR
 have hW := hW.mono hFF
 have hol := hW.one'
 refine Does.rfin (does_of_svc (args := [PV l p, .int .i64 1]) mixed Tryz.func73 low73 (Nat.le_of_ble_eq_true rfl) fun w0 hw0 => ?_)
 simp only [*, fu73, ↓ZD, ZW, RO, simprocAttr]
 refine NewB.n ?_
 rintro b1 _ _
 simp only [*, ↓ZD, ZW, RO, simprocAttr]
 refine NewB.n ?_
 rintro b2 ⟨_, _, _⟩ _
 simp only [*, ↓ZD, ZW, RO, simprocAttr]
 refine NewB.n ?_
 rintro b3 ⟨_, _, _, _, _⟩ _
 simp only [*, ↓ZD, ZW, RO, simprocAttr]
 refine CallE.rq (h1.mono hFF) hA hg hR (by simp only [*, ↓ZD, ZW, RO, simprocAttr]) ?_
 rintro p1 cs1 G1 hA1 hr1 ⟨_, ⟨_, _, _, _⟩, hx1, _⟩
 simp only [*, ↓ZD, ZW, RO, simprocAttr]
 repeat' (first | exact RFin.g hA1 ‹_› hr1 ‹_› | apply And.intro)
theorem rlower2_prs (F : Base) {ws : Ws} {l : Value} (hW : HasW F ws l) (n : Nat) (h1 : RPrs F l 49 [.int .i64 3] (G ws n (.lev 3))) : RPrs F l 73 [.int .i64 2] (G ws n (lowN 2)) := by
 intro F' hFF p s x s' hA hg hR
 have hW := hW.mono hFF
 have hol := hW.one'
 refine Does.rfin (does_of_svc (args := [PV l p, .int .i64 2]) mixed Tryz.func73 low73 (Nat.le_of_ble_eq_true rfl) fun w0 hw0 => ?_)
 simp only [*, fu73, ↓ZD, ZW, RO, simprocAttr]
 refine NewB.n ?_
 rintro b1 _ _
 simp only [*, ↓ZD, ZW, RO, simprocAttr]
 refine NewB.n ?_
 rintro b2 ⟨_, _, _⟩ _
 simp only [*, ↓ZD, ZW, RO, simprocAttr]
 refine NewB.n ?_
 rintro b3 ⟨_, _, _, _, _⟩ _
 simp only [*, ↓ZD, ZW, RO, simprocAttr]
 refine CallE.rq (h1.mono hFF) hA hg hR (by simp only [*, ↓ZD, ZW, RO, simprocAttr]) ?_
 rintro p1 cs1 G1 hA1 hr1 ⟨_, ⟨_, _, _, _⟩, hx1, _⟩
 simp only [*, ↓ZD, ZW, RO, simprocAttr]
 repeat' (first | exact RFin.g hA1 ‹_› hr1 ‹_› | apply And.intro)
theorem rlower3_prs (F : Base) {ws : Ws} {l : Value} (hW : HasW F ws l) (n : Nat) (h1 : RPrs F l 88 [] (G ws n (.unary))) : RPrs F l 73 [.int .i64 3] (G ws n (lowN 3)) := by
 intro F' hFF p s x s' hA hg hR
 have hW := hW.mono hFF
 have hol := hW.one'
 refine Does.rfin (does_of_svc (args := [PV l p, .int .i64 3]) mixed Tryz.func73 low73 (Nat.le_of_ble_eq_true rfl) fun w0 hw0 => ?_)
 simp only [*, fu73, ↓ZD, ZW, RO, simprocAttr]
 refine NewB.n ?_
 rintro b1 _ _
 simp only [*, ↓ZD, ZW, RO, simprocAttr]
 refine NewB.n ?_
 rintro b2 ⟨_, _, _⟩ _
 simp only [*, ↓ZD, ZW, RO, simprocAttr]
 refine NewB.n ?_
 rintro b3 ⟨_, _, _, _, _⟩ _
 simp only [*, ↓ZD, ZW, RO, simprocAttr]
 refine CallE.rq (h1.mono hFF) hA hg hR (by simp only [*, ↓ZD, ZW, RO, simprocAttr]) ?_
 rintro p1 cs1 G1 hA1 hr1 ⟨_, ⟨_, _, _, _⟩, hx1, _⟩
 simp only [*, ↓ZD, ZW, RO, simprocAttr]
 repeat' (first | exact RFin.g hA1 ‹_› hr1 ‹_› | apply And.intro)
theorem isS_ne {ws : Ws} {p : St} {a b : Str} (h : isS ws p a = true) (hn : (a == b) = false) : isS ws p b = false := by
 unfold isS at *
 rw [Bool.and_eq_true] at h
 rw [beq_iff_eq.1 h.2, hn, Bool.and_false]
structure RLvI (ws : Ws) (F : Base) (b1 b2 b3 b4 N : Nat) (t : Ex' → NT) (xF : Ex') (sF : St) (y : RowS) : Prop where
 A : Agr y.p y.s
 g : Good y.s
 c : Ok12 y.cs
 r : y.s.e = 0 → RepP (rdObj F y.G) y.cs y.x
 n : Nb b1 y.G ∧ Nb b2 y.G ∧ Nb b3 y.G ∧ Nb b4 y.G
 w : Wk y.G
 m : y.m ≤ N
 R : G ws y.m (t y.x) y.s = some (xF, sF)
abbrev zp : List Value := [Value.slice none 0 0, Value.int IntKind.i64 0, Value.int IntKind.i64 0, Value.int IntKind.i64 0, Value.int IntKind.i64 0]
theorem rlev0_prs (F : Base) {ws : Ws} {l : Value} (hW : HasW F ws l) (N : Nat) (h1 : ∀ n ≤ N, RPrs F l 73 [.int .i64 0] (G ws n (lowN 0))) : RPrs F l 49 [.int .i64 0] (G ws (N + 1) (.lev 0)) := by
 intro F' hFF p s x s' hA hg hR
 have hW := hW.mono hFF
 have hol := hW.one'
 refine Does.rfin (does_of_svc (args := [PV l p, .int .i64 0]) mixed Tryz.func49 low49 (Nat.le_of_ble_eq_true rfl) fun w0 hw0 => ?_)
 simp only [*, fu49, ↓ZD, ZW, RO, simprocAttr]
 refine NewB.n ?_
 rintro b1 _ _
 simp only [*, ↓ZD, ZW, RO, simprocAttr]
 refine NewB.n ?_
 rintro b2 ⟨_, _, _⟩ _
 simp only [*, ↓ZD, ZW, RO, simprocAttr]
 refine NewB.n ?_
 rintro b3 ⟨_, _, _, _, _⟩ _
 simp only [*, ↓ZD, ZW, RO, simprocAttr]
 obtain ⟨x1, s1, -, hR1, hR2⟩ := row_split hR
 refine CallE.rq (h1 N (Nat.le_refl _) |>.mono hFF) hA hg hR1 (by simp only [*, ↓ZD, ZW, RO, simprocAttr]) ?_
 rintro p1 cs1 G1 hA1 hr1 ⟨_, ⟨_, _, _, _⟩, hx1, _⟩
 simp only [*, ↓ZD, ZW, RO, simprocAttr]
 refine NewB.n ?_
 rintro b4 ⟨_, _, _, _, _, _, _⟩ _
 simp only [*, ↓ZD, ZW, RO, simprocAttr]
 refine LoopL.inv (α := RowS) (RLvI ws F' b1 b2 b3 b4 N (.rows 0) x s') (fun y => [(1, some (.int .i64 0)), (2, some (.pointer (some ⟨b1, 0, none⟩))), (4, some (.pointer (some ⟨b2, 0, none⟩))), (5, some (.pointer (some ⟨b3, 0, none⟩))), (6, some (.pointer (some ⟨b4, 0, none⟩)))])
  (fun y => (b4, .cells y.cs.toArray 38 (0, 0)) :: (b3, .cells zx.toArray 38 (0, 0)) :: (b2, .cells zp.toArray 68 (0, 0)) :: (b1, .cells #[l, .int .i64 y.p.p, .int .i64 y.p.deep, .int .i64 y.p.e, .int .i64 y.p.bad] 68 (0, 0)) :: y.G) (fun y => y.m) ⟨p1, s1, cs1, G1, x1, N⟩ ⟨hA1, hg.go hR1, ‹_›, hr1, ⟨‹_›, ‹_›, ‹_›, ‹_›⟩, ‹_›, Nat.le_refl _, hR2⟩ (by simp only [*, ↓ZD, ZW, RO, simprocAttr]) (by simp only [*, ↓ZD, ZW, RO, simprocAttr]) ?_
 clear hR hR1 hR2 hA hg hA1 hr1 hx1
 rintro ⟨p, s, cs9, G9, x1, m⟩ ⟨hA, hg, hc9, hr9, ⟨_, _, _, _⟩, hw9, hm, hR⟩
 dsimp only at hA hg hc9 hr9 hw9 hm hR ⊢
 have hlen := hW.len
 by_cases he0 : s.e = 0
 ·obtain rfl := hA.ok he0
  have hd : (p.e == 0) = true := by simpa using he0
  obtain ⟨m, rfl⟩ : ∃ m', m = m' + 1 := by
   cases m with
   | zero => exact absurd he0 (G_zero hR).1
   | succ m => exact ⟨m, rfl⟩
  rw [G_succ, if_pos he0] at hR
  simp only [stepG] at hR
  replace he0 : id (p.e = 0) := he0
  simp only [*, ↓ZD, ZW, RO, simprocAttr]
  refine TreeL.open ?_
  simp only [*, ↓ZD, ZW, RO, simprocAttr]
  refine NewB.n ?_
  rintro b5 ⟨_, _, _, _, _, _, _, _, _⟩ _
  simp only [*, ↓ZD, ZW, RO, simprocAttr]
  refine CallQ.of _ (rIs_pure _ (hW.mono le_up) p [124, 124]) ?_
  rcases tf (isS ws p [124, 124]) with hi | hi
  ·have ho : opAt ws 0 p = 5 := if_pos hi
   have hrg := isS_range hi
   have hw1 : IntKind.i64.wrap (p.p + 1) = p.p + 1 := by rw [wrap_i64]; omega
   simp only [ho] at hR
   rw [if_neg (by decide)] at hR
   obtain ⟨⟨y, t⟩, hR3, hR4⟩ := bind_some hR
   clear hR
   simp only [*, ↓ZD, ZW, RO, simprocAttr]
   refine NewB.n ?_
   rintro b6 ⟨_, _, _, _, _, _, _, _, _, _, _⟩ _
   simp only [*, ↓ZD, ZW, RO, simprocAttr]
   refine CallQ.of (.bool false) trivial ?_
   simp only [*, ↓ZD, ZW, RO, simprocAttr]
   refine NewB.n ?_
   rintro b7 ⟨_, _, _, _, _, _, _, _, _, _, _, _, _⟩ _
   simp only [*, ↓ZD, ZW, RO, simprocAttr]
   refine CallE.rq (p := adv p) (s := adv p) ((h1 m (by omega)).mono hFF) Agr.rfl' hg.adv hR3 (by simp only [*, ↓ZD, ZW, RO, simprocAttr]) ?_
   rintro p10 cs10 G10 hA10 hr10 ⟨_, ⟨_, _, _, _, _, _, _, _⟩, hx10, _⟩
   simp only [*, ↓ZD, ZW, RO, simprocAttr]
   refine CallE.pair (i64_lit rfl) (fun he => ((hr9 he0).mono hx10)) (fun he => (hr10 he)) ‹_› ‹_› (by simp only [*, ↓ZD, ZW, RO, simprocAttr]) ?_
   rintro cs11 G11 hr11 ⟨_, ⟨_, _, _, _, _, _, _, _⟩, hx11, _⟩
   simp only [*, ↓ZD, ZW, RO, simprocAttr]
   refine invK.on ⟨p10, t, cs11, G11, twoX 5 x1 y, m⟩ ⟨hA10, hg.adv.go hR3, ‹_›, hr11, ⟨‹_›, ‹_›, ‹_›, ‹_›⟩, ‹_›, (by show m ≤ N; omega), hR4⟩ (by show m < m + 1; omega) (by simp only [*, ↓ZD, ZW, RO, simprocAttr]) (by simp only [*, ↓ZD, ZW, RO, simprocAttr])
  simp only [*, ↓ZD, ZW, RO, simprocAttr]
  have ho : opAt ws 0 p = 0 := if_neg (by rw [hi]; decide)
  simp only [ho, if_true, Option.some.injEq, Prod.mk.injEq] at hR
  obtain ⟨rfl, rfl⟩ := hR
  refine CallQ.of (.bool false) trivial ?_
  simp only [*, ↓ZD, ZW, RO, simprocAttr]
  refine TreeL.open ?_
  simp only [*, ↓ZD, ZW, RO, simprocAttr]
  repeat' (first | exact RFin.g hA ‹_› hr9 ‹_› | apply And.intro)
 ·have hd : (p.e == 0) = false := by rw [hA.e]; simpa using he0
  obtain ⟨rfl, rfl⟩ := G_err he0 _ _ hR
  simp only [*, ↓ZD, ZW, RO, simprocAttr]
  refine TreeL.open ?_
  simp only [*, ↓ZD, ZW, RO, simprocAttr]
  repeat' (first | exact RFin.g hA ‹_› (fun h => absurd h he0) ‹_› | apply And.intro)
theorem rlev1_prs (F : Base) {ws : Ws} {l : Value} (hW : HasW F ws l) (N : Nat) (h1 : ∀ n ≤ N, RPrs F l 73 [.int .i64 1] (G ws n (lowN 1))) : RPrs F l 49 [.int .i64 1] (G ws (N + 1) (.lev 1)) := by
 intro F' hFF p s x s' hA hg hR
 have hW := hW.mono hFF
 have hol := hW.one'
 refine Does.rfin (does_of_svc (args := [PV l p, .int .i64 1]) mixed Tryz.func49 low49 (Nat.le_of_ble_eq_true rfl) fun w0 hw0 => ?_)
 simp only [*, fu49, ↓ZD, ZW, RO, simprocAttr]
 refine NewB.n ?_
 rintro b1 _ _
 simp only [*, ↓ZD, ZW, RO, simprocAttr]
 refine NewB.n ?_
 rintro b2 ⟨_, _, _⟩ _
 simp only [*, ↓ZD, ZW, RO, simprocAttr]
 refine NewB.n ?_
 rintro b3 ⟨_, _, _, _, _⟩ _
 simp only [*, ↓ZD, ZW, RO, simprocAttr]
 obtain ⟨x1, s1, -, hR1, hR2⟩ := row_split hR
 refine CallE.rq (h1 N (Nat.le_refl _) |>.mono hFF) hA hg hR1 (by simp only [*, ↓ZD, ZW, RO, simprocAttr]) ?_
 rintro p1 cs1 G1 hA1 hr1 ⟨_, ⟨_, _, _, _⟩, hx1, _⟩
 simp only [*, ↓ZD, ZW, RO, simprocAttr]
 refine NewB.n ?_
 rintro b4 ⟨_, _, _, _, _, _, _⟩ _
 simp only [*, ↓ZD, ZW, RO, simprocAttr]
 refine LoopL.inv (α := RowS) (RLvI ws F' b1 b2 b3 b4 N (.rows 1) x s') (fun y => [(1, some (.int .i64 1)), (2, some (.pointer (some ⟨b1, 0, none⟩))), (4, some (.pointer (some ⟨b2, 0, none⟩))), (5, some (.pointer (some ⟨b3, 0, none⟩))), (6, some (.pointer (some ⟨b4, 0, none⟩)))])
  (fun y => (b4, .cells y.cs.toArray 38 (0, 0)) :: (b3, .cells zx.toArray 38 (0, 0)) :: (b2, .cells zp.toArray 68 (0, 0)) :: (b1, .cells #[l, .int .i64 y.p.p, .int .i64 y.p.deep, .int .i64 y.p.e, .int .i64 y.p.bad] 68 (0, 0)) :: y.G) (fun y => y.m) ⟨p1, s1, cs1, G1, x1, N⟩ ⟨hA1, hg.go hR1, ‹_›, hr1, ⟨‹_›, ‹_›, ‹_›, ‹_›⟩, ‹_›, Nat.le_refl _, hR2⟩ (by simp only [*, ↓ZD, ZW, RO, simprocAttr]) (by simp only [*, ↓ZD, ZW, RO, simprocAttr]) ?_
 clear hR hR1 hR2 hA hg hA1 hr1 hx1
 rintro ⟨p, s, cs9, G9, x1, m⟩ ⟨hA, hg, hc9, hr9, ⟨_, _, _, _⟩, hw9, hm, hR⟩
 dsimp only at hA hg hc9 hr9 hw9 hm hR ⊢
 have hlen := hW.len
 by_cases he0 : s.e = 0
 ·obtain rfl := hA.ok he0
  have hd : (p.e == 0) = true := by simpa using he0
  obtain ⟨m, rfl⟩ : ∃ m', m = m' + 1 := by
   cases m with
   | zero => exact absurd he0 (G_zero hR).1
   | succ m => exact ⟨m, rfl⟩
  rw [G_succ, if_pos he0] at hR
  simp only [stepG] at hR
  replace he0 : id (p.e = 0) := he0
  simp only [*, ↓ZD, ZW, RO, simprocAttr]
  refine TreeL.open ?_
  simp only [*, ↓ZD, ZW, RO, simprocAttr]
  refine NewB.n ?_
  rintro b5 ⟨_, _, _, _, _, _, _, _, _⟩ _
  simp only [*, ↓ZD, ZW, RO, simprocAttr]
  refine CallQ.of _ (rIs_pure _ (hW.mono le_up) p [38, 38]) ?_
  rcases tf (isS ws p [38, 38]) with hi | hi
  ·have ho : opAt ws 1 p = 4 := if_pos hi
   have hrg := isS_range hi
   have hw1 : IntKind.i64.wrap (p.p + 1) = p.p + 1 := by rw [wrap_i64]; omega
   simp only [ho] at hR
   rw [if_neg (by decide)] at hR
   obtain ⟨⟨y, t⟩, hR3, hR4⟩ := bind_some hR
   clear hR
   simp only [*, ↓ZD, ZW, RO, simprocAttr]
   refine NewB.n ?_
   rintro b6 ⟨_, _, _, _, _, _, _, _, _, _, _⟩ _
   simp only [*, ↓ZD, ZW, RO, simprocAttr]
   refine CallQ.of (.bool false) trivial ?_
   simp only [*, ↓ZD, ZW, RO, simprocAttr]
   refine NewB.n ?_
   rintro b7 ⟨_, _, _, _, _, _, _, _, _, _, _, _, _⟩ _
   simp only [*, ↓ZD, ZW, RO, simprocAttr]
   refine CallE.rq (p := adv p) (s := adv p) ((h1 m (by omega)).mono hFF) Agr.rfl' hg.adv hR3 (by simp only [*, ↓ZD, ZW, RO, simprocAttr]) ?_
   rintro p10 cs10 G10 hA10 hr10 ⟨_, ⟨_, _, _, _, _, _, _, _⟩, hx10, _⟩
   simp only [*, ↓ZD, ZW, RO, simprocAttr]
   refine CallE.pair (i64_lit rfl) (fun he => ((hr9 he0).mono hx10)) (fun he => (hr10 he)) ‹_› ‹_› (by simp only [*, ↓ZD, ZW, RO, simprocAttr]) ?_
   rintro cs11 G11 hr11 ⟨_, ⟨_, _, _, _, _, _, _, _⟩, hx11, _⟩
   simp only [*, ↓ZD, ZW, RO, simprocAttr]
   refine invK.on ⟨p10, t, cs11, G11, twoX 4 x1 y, m⟩ ⟨hA10, hg.adv.go hR3, ‹_›, hr11, ⟨‹_›, ‹_›, ‹_›, ‹_›⟩, ‹_›, (by show m ≤ N; omega), hR4⟩ (by show m < m + 1; omega) (by simp only [*, ↓ZD, ZW, RO, simprocAttr]) (by simp only [*, ↓ZD, ZW, RO, simprocAttr])
  simp only [*, ↓ZD, ZW, RO, simprocAttr]
  have ho : opAt ws 1 p = 0 := if_neg (by rw [hi]; decide)
  simp only [ho, if_true, Option.some.injEq, Prod.mk.injEq] at hR
  obtain ⟨rfl, rfl⟩ := hR
  refine CallQ.of (.bool false) trivial ?_
  simp only [*, ↓ZD, ZW, RO, simprocAttr]
  refine TreeL.open ?_
  simp only [*, ↓ZD, ZW, RO, simprocAttr]
  repeat' (first | exact RFin.g hA ‹_› hr9 ‹_› | apply And.intro)
 ·have hd : (p.e == 0) = false := by rw [hA.e]; simpa using he0
  obtain ⟨rfl, rfl⟩ := G_err he0 _ _ hR
  simp only [*, ↓ZD, ZW, RO, simprocAttr]
  refine TreeL.open ?_
  simp only [*, ↓ZD, ZW, RO, simprocAttr]
  repeat' (first | exact RFin.g hA ‹_› (fun h => absurd h he0) ‹_› | apply And.intro)
theorem rlev2_prs (F : Base) {ws : Ws} {l : Value} (hW : HasW F ws l) (N : Nat) (h1 : ∀ n ≤ N, RPrs F l 73 [.int .i64 2] (G ws n (lowN 2))) : RPrs F l 49 [.int .i64 2] (G ws (N + 1) (.lev 2)) := by
 intro F' hFF p s x s' hA hg hR
 have hW := hW.mono hFF
 have hol := hW.one'
 refine Does.rfin (does_of_svc (args := [PV l p, .int .i64 2]) mixed Tryz.func49 low49 (Nat.le_of_ble_eq_true rfl) fun w0 hw0 => ?_)
 simp only [*, fu49, ↓ZD, ZW, RO, simprocAttr]
 refine NewB.n ?_
 rintro b1 _ _
 simp only [*, ↓ZD, ZW, RO, simprocAttr]
 refine NewB.n ?_
 rintro b2 ⟨_, _, _⟩ _
 simp only [*, ↓ZD, ZW, RO, simprocAttr]
 refine NewB.n ?_
 rintro b3 ⟨_, _, _, _, _⟩ _
 simp only [*, ↓ZD, ZW, RO, simprocAttr]
 obtain ⟨x1, s1, -, hR1, hR2⟩ := row_split hR
 refine CallE.rq (h1 N (Nat.le_refl _) |>.mono hFF) hA hg hR1 (by simp only [*, ↓ZD, ZW, RO, simprocAttr]) ?_
 rintro p1 cs1 G1 hA1 hr1 ⟨_, ⟨_, _, _, _⟩, hx1, _⟩
 simp only [*, ↓ZD, ZW, RO, simprocAttr]
 refine NewB.n ?_
 rintro b4 ⟨_, _, _, _, _, _, _⟩ _
 simp only [*, ↓ZD, ZW, RO, simprocAttr]
 refine LoopL.inv (α := RowS) (RLvI ws F' b1 b2 b3 b4 N (.rows 2) x s') (fun y => [(1, some (.int .i64 2)), (2, some (.pointer (some ⟨b1, 0, none⟩))), (4, some (.pointer (some ⟨b2, 0, none⟩))), (5, some (.pointer (some ⟨b3, 0, none⟩))), (6, some (.pointer (some ⟨b4, 0, none⟩)))])
  (fun y => (b4, .cells y.cs.toArray 38 (0, 0)) :: (b3, .cells zx.toArray 38 (0, 0)) :: (b2, .cells zp.toArray 68 (0, 0)) :: (b1, .cells #[l, .int .i64 y.p.p, .int .i64 y.p.deep, .int .i64 y.p.e, .int .i64 y.p.bad] 68 (0, 0)) :: y.G) (fun y => y.m) ⟨p1, s1, cs1, G1, x1, N⟩ ⟨hA1, hg.go hR1, ‹_›, hr1, ⟨‹_›, ‹_›, ‹_›, ‹_›⟩, ‹_›, Nat.le_refl _, hR2⟩ (by simp only [*, ↓ZD, ZW, RO, simprocAttr]) (by simp only [*, ↓ZD, ZW, RO, simprocAttr]) ?_
 clear hR hR1 hR2 hA hg hA1 hr1 hx1
 rintro ⟨p, s, cs9, G9, x1, m⟩ ⟨hA, hg, hc9, hr9, ⟨_, _, _, _⟩, hw9, hm, hR⟩
 dsimp only at hA hg hc9 hr9 hw9 hm hR ⊢
 have hlen := hW.len
 by_cases he0 : s.e = 0
 ·obtain rfl := hA.ok he0
  have hd : (p.e == 0) = true := by simpa using he0
  obtain ⟨m, rfl⟩ : ∃ m', m = m' + 1 := by
   cases m with
   | zero => exact absurd he0 (G_zero hR).1
   | succ m => exact ⟨m, rfl⟩
  rw [G_succ, if_pos he0] at hR
  simp only [stepG] at hR
  replace he0 : id (p.e = 0) := he0
  simp only [*, ↓ZD, ZW, RO, simprocAttr]
  refine TreeL.open ?_
  simp only [*, ↓ZD, ZW, RO, simprocAttr]
  refine NewB.n ?_
  rintro b5 ⟨_, _, _, _, _, _, _, _, _⟩ _
  simp only [*, ↓ZD, ZW, RO, simprocAttr]
  refine CallQ.of _ (rIs_pure _ (hW.mono le_up) p [43]) ?_
  rcases tf (isS ws p [43]) with hi | hi
  ·have ho : opAt ws 2 p = 11 := if_pos hi
   have hrg := isS_range hi
   have hw1 : IntKind.i64.wrap (p.p + 1) = p.p + 1 := by rw [wrap_i64]; omega
   simp only [ho] at hR
   rw [if_neg (by decide)] at hR
   obtain ⟨⟨y, t⟩, hR3, hR4⟩ := bind_some hR
   clear hR
   have hi2 : isS ws p [45] = false := isS_ne hi (by decide)
   simp only [*, ↓ZD, ZW, RO, simprocAttr]
   refine NewB.n ?_
   rintro b6 ⟨_, _, _, _, _, _, _, _, _, _, _⟩ _
   simp only [*, ↓ZD, ZW, RO, simprocAttr]
   refine CallQ.of _ (rIs_pure _ (hW.mono le_up) p [45]) ?_
   rw [hi2]
   simp only [*, ↓ZD, ZW, RO, simprocAttr]
   refine NewB.n ?_
   rintro b7 ⟨_, _, _, _, _, _, _, _, _, _, _, _, _⟩ _
   simp only [*, ↓ZD, ZW, RO, simprocAttr]
   refine CallE.rq (p := adv p) (s := adv p) ((h1 m (by omega)).mono hFF) Agr.rfl' hg.adv hR3 (by simp only [*, ↓ZD, ZW, RO, simprocAttr]) ?_
   rintro p10 cs10 G10 hA10 hr10 ⟨_, ⟨_, _, _, _, _, _, _, _⟩, hx10, _⟩
   simp only [*, ↓ZD, ZW, RO, simprocAttr]
   refine CallE.pair (i64_lit rfl) (fun he => ((hr9 he0).mono hx10)) (fun he => (hr10 he)) ‹_› ‹_› (by simp only [*, ↓ZD, ZW, RO, simprocAttr]) ?_
   rintro cs11 G11 hr11 ⟨_, ⟨_, _, _, _, _, _, _, _⟩, hx11, _⟩
   simp only [*, ↓ZD, ZW, RO, simprocAttr]
   refine invK.on ⟨p10, t, cs11, G11, twoX 11 x1 y, m⟩ ⟨hA10, hg.adv.go hR3, ‹_›, hr11, ⟨‹_›, ‹_›, ‹_›, ‹_›⟩, ‹_›, (by show m ≤ N; omega), hR4⟩ (by show m < m + 1; omega) (by simp only [*, ↓ZD, ZW, RO, simprocAttr]) (by simp only [*, ↓ZD, ZW, RO, simprocAttr])
  simp only [*, ↓ZD, ZW, RO, simprocAttr]
  refine CallQ.of _ (rIs_pure _ (hW.mono le_up) p [45]) ?_
  rcases tf (isS ws p [45]) with hi2 | hi2
  ·have ho : opAt ws 2 p = 12 := by simp only [opAt, hi, hi2]; rfl
   have hrg := isS_range hi2
   have hw1 : IntKind.i64.wrap (p.p + 1) = p.p + 1 := by rw [wrap_i64]; omega
   simp only [ho] at hR
   rw [if_neg (by decide)] at hR
   obtain ⟨⟨y, t⟩, hR3, hR4⟩ := bind_some hR
   clear hR
   simp only [*, ↓ZD, ZW, RO, simprocAttr]
   refine NewB.n ?_
   rintro b6 ⟨_, _, _, _, _, _, _, _, _, _, _⟩ _
   simp only [*, ↓ZD, ZW, RO, simprocAttr]
   refine CallE.rq (p := adv p) (s := adv p) ((h1 m (by omega)).mono hFF) Agr.rfl' hg.adv hR3 (by simp only [*, ↓ZD, ZW, RO, simprocAttr]) ?_
   rintro p10 cs10 G10 hA10 hr10 ⟨_, ⟨_, _, _, _, _, _, _⟩, hx10, _⟩
   simp only [*, ↓ZD, ZW, RO, simprocAttr]
   refine CallE.pair (i64_lit rfl) (fun he => ((hr9 he0).mono hx10)) (fun he => (hr10 he)) ‹_› ‹_› (by simp only [*, ↓ZD, ZW, RO, simprocAttr]) ?_
   rintro cs11 G11 hr11 ⟨_, ⟨_, _, _, _, _, _, _⟩, hx11, _⟩
   simp only [*, ↓ZD, ZW, RO, simprocAttr]
   refine invK.on ⟨p10, t, cs11, G11, twoX 12 x1 y, m⟩ ⟨hA10, hg.adv.go hR3, ‹_›, hr11, ⟨‹_›, ‹_›, ‹_›, ‹_›⟩, ‹_›, (by show m ≤ N; omega), hR4⟩ (by show m < m + 1; omega) (by simp only [*, ↓ZD, ZW, RO, simprocAttr]) (by simp only [*, ↓ZD, ZW, RO, simprocAttr])
  have ho : opAt ws 2 p = 0 := by simp only [opAt, hi, hi2]; rfl
  simp only [ho, if_true, Option.some.injEq, Prod.mk.injEq] at hR
  obtain ⟨rfl, rfl⟩ := hR
  simp only [*, ↓ZD, ZW, RO, simprocAttr]
  refine TreeL.open ?_
  simp only [*, ↓ZD, ZW, RO, simprocAttr]
  repeat' (first | exact RFin.g hA ‹_› hr9 ‹_› | apply And.intro)
 ·have hd : (p.e == 0) = false := by rw [hA.e]; simpa using he0
  obtain ⟨rfl, rfl⟩ := G_err he0 _ _ hR
  simp only [*, ↓ZD, ZW, RO, simprocAttr]
  refine TreeL.open ?_
  simp only [*, ↓ZD, ZW, RO, simprocAttr]
  repeat' (first | exact RFin.g hA ‹_› (fun h => absurd h he0) ‹_› | apply And.intro)
theorem rlev3_prs (F : Base) {ws : Ws} {l : Value} (hW : HasW F ws l) (N : Nat) (h1 : ∀ n ≤ N, RPrs F l 73 [.int .i64 3] (G ws n (lowN 3))) : RPrs F l 49 [.int .i64 3] (G ws (N + 1) (.lev 3)) := by
 intro F' hFF p s x s' hA hg hR
 have hW := hW.mono hFF
 have hol := hW.one'
 refine Does.rfin (does_of_svc (args := [PV l p, .int .i64 3]) mixed Tryz.func49 low49 (Nat.le_of_ble_eq_true rfl) fun w0 hw0 => ?_)
 simp only [*, fu49, ↓ZD, ZW, RO, simprocAttr]
 refine NewB.n ?_
 rintro b1 _ _
 simp only [*, ↓ZD, ZW, RO, simprocAttr]
 refine NewB.n ?_
 rintro b2 ⟨_, _, _⟩ _
 simp only [*, ↓ZD, ZW, RO, simprocAttr]
 refine NewB.n ?_
 rintro b3 ⟨_, _, _, _, _⟩ _
 simp only [*, ↓ZD, ZW, RO, simprocAttr]
 obtain ⟨x1, s1, -, hR1, hR2⟩ := row_split hR
 refine CallE.rq (h1 N (Nat.le_refl _) |>.mono hFF) hA hg hR1 (by simp only [*, ↓ZD, ZW, RO, simprocAttr]) ?_
 rintro p1 cs1 G1 hA1 hr1 ⟨_, ⟨_, _, _, _⟩, hx1, _⟩
 simp only [*, ↓ZD, ZW, RO, simprocAttr]
 refine NewB.n ?_
 rintro b4 ⟨_, _, _, _, _, _, _⟩ _
 simp only [*, ↓ZD, ZW, RO, simprocAttr]
 refine LoopL.inv (α := RowS) (RLvI ws F' b1 b2 b3 b4 N (.rows 3) x s') (fun y => [(1, some (.int .i64 3)), (2, some (.pointer (some ⟨b1, 0, none⟩))), (4, some (.pointer (some ⟨b2, 0, none⟩))), (5, some (.pointer (some ⟨b3, 0, none⟩))), (6, some (.pointer (some ⟨b4, 0, none⟩)))])
  (fun y => (b4, .cells y.cs.toArray 38 (0, 0)) :: (b3, .cells zx.toArray 38 (0, 0)) :: (b2, .cells zp.toArray 68 (0, 0)) :: (b1, .cells #[l, .int .i64 y.p.p, .int .i64 y.p.deep, .int .i64 y.p.e, .int .i64 y.p.bad] 68 (0, 0)) :: y.G) (fun y => y.m) ⟨p1, s1, cs1, G1, x1, N⟩ ⟨hA1, hg.go hR1, ‹_›, hr1, ⟨‹_›, ‹_›, ‹_›, ‹_›⟩, ‹_›, Nat.le_refl _, hR2⟩ (by simp only [*, ↓ZD, ZW, RO, simprocAttr]) (by simp only [*, ↓ZD, ZW, RO, simprocAttr]) ?_
 clear hR hR1 hR2 hA hg hA1 hr1 hx1
 rintro ⟨p, s, cs9, G9, x1, m⟩ ⟨hA, hg, hc9, hr9, ⟨_, _, _, _⟩, hw9, hm, hR⟩
 dsimp only at hA hg hc9 hr9 hw9 hm hR ⊢
 have hlen := hW.len
 by_cases he0 : s.e = 0
 ·obtain rfl := hA.ok he0
  have hd : (p.e == 0) = true := by simpa using he0
  obtain ⟨m, rfl⟩ : ∃ m', m = m' + 1 := by
   cases m with
   | zero => exact absurd he0 (G_zero hR).1
   | succ m => exact ⟨m, rfl⟩
  rw [G_succ, if_pos he0] at hR
  simp only [stepG] at hR
  replace he0 : id (p.e = 0) := he0
  simp only [*, ↓ZD, ZW, RO, simprocAttr]
  refine TreeL.open ?_
  simp only [*, ↓ZD, ZW, RO, simprocAttr]
  refine NewB.n ?_
  rintro b5 ⟨_, _, _, _, _, _, _, _, _⟩ _
  simp only [*, ↓ZD, ZW, RO, simprocAttr]
  refine CallQ.of _ (rIs_pure _ (hW.mono le_up) p [42]) ?_
  rcases tf (isS ws p [42]) with hi | hi
  ·have ho : opAt ws 3 p = 13 := if_pos hi
   have hrg := isS_range hi
   have hw1 : IntKind.i64.wrap (p.p + 1) = p.p + 1 := by rw [wrap_i64]; omega
   simp only [ho] at hR
   rw [if_neg (by decide)] at hR
   obtain ⟨⟨y, t⟩, hR3, hR4⟩ := bind_some hR
   clear hR
   simp only [*, ↓ZD, ZW, RO, simprocAttr]
   refine NewB.n ?_
   rintro b6 ⟨_, _, _, _, _, _, _, _, _, _, _⟩ _
   simp only [*, ↓ZD, ZW, RO, simprocAttr]
   refine CallQ.of (.bool false) trivial ?_
   simp only [*, ↓ZD, ZW, RO, simprocAttr]
   refine NewB.n ?_
   rintro b7 ⟨_, _, _, _, _, _, _, _, _, _, _, _, _⟩ _
   simp only [*, ↓ZD, ZW, RO, simprocAttr]
   refine CallE.rq (p := adv p) (s := adv p) ((h1 m (by omega)).mono hFF) Agr.rfl' hg.adv hR3 (by simp only [*, ↓ZD, ZW, RO, simprocAttr]) ?_
   rintro p10 cs10 G10 hA10 hr10 ⟨_, ⟨_, _, _, _, _, _, _, _⟩, hx10, _⟩
   simp only [*, ↓ZD, ZW, RO, simprocAttr]
   refine CallE.pair (i64_lit rfl) (fun he => ((hr9 he0).mono hx10)) (fun he => (hr10 he)) ‹_› ‹_› (by simp only [*, ↓ZD, ZW, RO, simprocAttr]) ?_
   rintro cs11 G11 hr11 ⟨_, ⟨_, _, _, _, _, _, _, _⟩, hx11, _⟩
   simp only [*, ↓ZD, ZW, RO, simprocAttr]
   refine invK.on ⟨p10, t, cs11, G11, twoX 13 x1 y, m⟩ ⟨hA10, hg.adv.go hR3, ‹_›, hr11, ⟨‹_›, ‹_›, ‹_›, ‹_›⟩, ‹_›, (by show m ≤ N; omega), hR4⟩ (by show m < m + 1; omega) (by simp only [*, ↓ZD, ZW, RO, simprocAttr]) (by simp only [*, ↓ZD, ZW, RO, simprocAttr])
  simp only [*, ↓ZD, ZW, RO, simprocAttr]
  have ho : opAt ws 3 p = 0 := if_neg (by rw [hi]; decide)
  simp only [ho, if_true, Option.some.injEq, Prod.mk.injEq] at hR
  obtain ⟨rfl, rfl⟩ := hR
  refine CallQ.of (.bool false) trivial ?_
  simp only [*, ↓ZD, ZW, RO, simprocAttr]
  refine TreeL.open ?_
  simp only [*, ↓ZD, ZW, RO, simprocAttr]
  repeat' (first | exact RFin.g hA ‹_› hr9 ‹_› | apply And.intro)
 ·have hd : (p.e == 0) = false := by rw [hA.e]; simpa using he0
  obtain ⟨rfl, rfl⟩ := G_err he0 _ _ hR
  simp only [*, ↓ZD, ZW, RO, simprocAttr]
  refine TreeL.open ?_
  simp only [*, ↓ZD, ZW, RO, simprocAttr]
  repeat' (first | exact RFin.g hA ‹_› (fun h => absurd h he0) ‹_› | apply And.intro)
end Go.Proofs.YtkbhinfpndnnfaaGreatDoor
namespace Go.Proofs.YtkbhinfpndnnfaaGreatDoor
open Go Go.Eng
set_option maxHeartbeats 1000000
set_option linter.unusedSimpArgs false
set_option linter.unusedVariables false
set_option maxRecDepth 20000
theorem runary_prs (F : Base) {ws : Ws} (hws : WsOk ws) {l : Value} (hW : HasW F ws l) (k : NT → St → Option (Ex' × St)) (hgo : GoesOn k) (h1 : RPrs F l 88 [] (k .unary)) (h2 : RPrs F l 96 [] (k .member)) : RPrs F l 88 [] (nestR ws (prefG ws k)) := by
 intro F' hFF p s x s' hA hg hR
 have hW := hW.mono hFF
 have hol := hW.one'
 refine Does.rfin (does_of_svc (args := [PV l p]) mixed Tryz.func88 low88 (Nat.le_of_ble_eq_true rfl) fun w0 hw0 => ?_)
 simp only [*, fu88, ↓ZD, ZW, RO, simprocAttr]
 refine NewB.n ?_
 rintro b1 _ _
 simp only [*, ↓ZD, ZW, RO, simprocAttr]
 refine NewB.n ?_
 rintro b2 ⟨_, _, _⟩ _
 simp only [*, ↓ZD, ZW, RO, simprocAttr]
 refine NewB.n ?_
 rintro b3 ⟨_, _, _, _, _⟩ _
 simp only [*, ↓ZD, ZW, RO, simprocAttr]
 refine CallE.pure (rdown_pure _ hW p) ?_
 rcases enter (fun s y => goes_pref hgo) hR hA hg with ⟨he, hAq, he'⟩ | ⟨hq, hgq, t, hR, hf, rfl, rfl, he'⟩
 ·generalize downS ws p = q at *
  have hd : (q.e != 0) = true := by simpa using he
  simp only [*, ↓ZD, ZW, RO, simprocAttr]
  exact RFin.m [] hAq ⟨rfl, rfl, rfl, rfl⟩ (fun h => absurd h he') Wk.nil all_nil
 rw [hq]
 have hd : ((inn p).e != 0) = false := by show (p.e != 0) = false; simpa using he'
 have hqe : (inn p).e = p.e ∧ (inn p).deep = p.deep + 1 := ⟨rfl, rfl⟩
 clear hq
 generalize inn p = q at *
 have hf2 : t.e = 0 → p.e = 0 ∧ t.deep = p.deep + 1 := fun he => ⟨hqe.1 ▸ (hf he).1, (hf he).2.2.trans hqe.2⟩
 clear hf hqe
 simp only [*, ↓ZD, ZW, RO, simprocAttr]
 refine NewB.n ?_
 rintro b4 ⟨_, _, _, _, _, _, _⟩ _
 simp only [*, ↓ZD, ZW, RO, simprocAttr]
 have hlen := hW.len
 refine CallE.pure (rIs_pure _ hW q [33]) ?_
 simp only [*, ↓ZD, ZW, RO, simprocAttr]
 refine CallE.pure (rIs_pure _ hW q [45]) ?_
 unfold prefG at hR
 rcases tf (isS ws q [33]) with hi | hi
 ·have hi2 : isS ws q [45] = false := isS_ne hi (by decide)
  rw [hi2]
  rw [hi, if_pos rfl] at hR
  obtain ⟨⟨x1, s1⟩, hR1, hR⟩ := map_some' hR
  simp only [Prod.mk.injEq] at hR
  obtain ⟨rfl, rfl⟩ := hR
  have hrg := isS_range hi
  have hw1 : IntKind.i64.wrap (q.p + 1) = q.p + 1 := by rw [wrap_i64]; omega
  simp only [*, ↓ZD, ZW, RO, simprocAttr]
  refine CallE.rq (p := adv q) (s := adv q) (h1.mono hFF) Agr.rfl' hgq.adv hR1 (by simp only [*, ↓ZD, ZW, RO, simprocAttr]) ?_
  rintro p1 cs1 G1 hA1 hr1 ⟨_, ⟨_, _, _, _, _⟩, hx1, _⟩
  simp only [*, ↓ZD, ZW, RO, simprocAttr]
  refine CallE.alone (i64_lit rfl) (fun he => (hr1 he)) ‹_› (by simp only [*, ↓ZD, ZW, RO, simprocAttr]) ?_
  rintro cs2 G2 hr2 ⟨_, ⟨_, _, _, _, _⟩, hx2, _⟩
  simp only [*, ↓ZD, ZW, RO, simprocAttr]
  refine TreeL.open ?_
  simp only [*, ↓ZD, ZW, RO, simprocAttr]
  repeat' (first | exact RFin.g (outW_agr hA1 hg hf2) ‹_› hr2 ‹_› | apply And.intro)
 rw [hi, if_neg (by decide)] at hR
 rcases tf (isS ws q [45]) with hi2 | hi2
 ·rw [hi2, if_pos rfl] at hR
  obtain ⟨⟨x1, s1⟩, hR1, hR⟩ := map_some' hR
  simp only [Prod.mk.injEq] at hR
  obtain ⟨rfl, rfl⟩ := hR
  have hrg := isS_range hi2
  have hw1 : IntKind.i64.wrap (q.p + 1) = q.p + 1 := by rw [wrap_i64]; omega
  simp only [*, ↓ZD, ZW, RO, simprocAttr]
  refine CallE.rq (p := adv q) (s := adv q) (h1.mono hFF) Agr.rfl' hgq.adv hR1 (by simp only [*, ↓ZD, ZW, RO, simprocAttr]) ?_
  rintro p1 cs1 G1 hA1 hr1 ⟨_, ⟨_, _, _, _, _⟩, hx1, _⟩
  simp only [*, ↓ZD, ZW, RO, simprocAttr]
  refine CallE.alone (i64_lit rfl) (fun he => (hr1 he)) ‹_› (by simp only [*, ↓ZD, ZW, RO, simprocAttr]) ?_
  rintro cs2 G2 hr2 ⟨_, ⟨_, _, _, _, _⟩, hx2, _⟩
  simp only [*, ↓ZD, ZW, RO, simprocAttr]
  refine TreeL.open ?_
  simp only [*, ↓ZD, ZW, RO, simprocAttr]
  repeat' (first | exact RFin.g (outW_agr hA1 hg hf2) ‹_› hr2 ‹_› | apply And.intro)
 rw [hi2, if_neg (by decide)] at hR
 simp only [*, ↓ZD, ZW, RO, simprocAttr]
 refine CallE.rq (p := q) (s := q) (h2.mono hFF) Agr.rfl' hgq hR (by simp only [*, ↓ZD, ZW, RO, simprocAttr]) ?_
 rintro p1 cs1 G1 hA1 hr1 ⟨_, ⟨_, _, _, _, _⟩, hx1, _⟩
 simp only [*, ↓ZD, ZW, RO, simprocAttr]
 refine TreeL.open ?_
 simp only [*, ↓ZD, ZW, RO, simprocAttr]
 repeat' (first | exact RFin.g (outW_agr hA1 hg hf2) ‹_› hr1 ‹_› | apply And.intro)
def relT (ws : Ws) (g : NT → St → Option (Ex' × St)) (x : Ex') (s : St) : Option (Ex' × St) :=
 if isS ws s [61, 61] then (g (.lev 2) (adv s)).map fun b => (twoX 8 x b.1, b.2)
 else if isS ws s [33, 61] then (g (.lev 2) (adv s)).map fun b => (oneX' 6 [] (twoX 8 x b.1), b.2)
 else if isS ws s [60] then (g (.lev 2) (adv s)).map fun b => (twoX 9 x b.1, b.2)
 else if isS ws s [60, 61] then (g (.lev 2) (adv s)).map fun b => (twoX 10 x b.1, b.2)
 else if isS ws s [62] then (g (.lev 2) (adv s)).map fun b => (twoX 9 b.1 x, b.2)
 else if isS ws s [62, 61] then (g (.lev 2) (adv s)).map fun b => (twoX 10 b.1 x, b.2)
 else if isS ws s [105, 110] then (g (.lev 2) (adv s)).map fun b => (twoX 15 x b.1, b.2)
 else if isS ws s [104, 97, 115] then some (oneX' 17 (takeS ws (adv s) 1).1 x, (takeS ws (adv s) 1).2)
 else if isS ws s [105, 115] then some (oneX' 16 (pathS ws (adv s)).1 x, (pathS ws (adv s)).2)
 else some (x, s)
theorem rel_split {ws : Ws} {n : Nat} {s s' : St} {x : Ex'} (h : (if s.e = 0 then relG ws (G ws n) s else some (nilX, s)) = some (x, s')) : ∃ x1 s1, G ws n (.lev 2) s = some (x1, s1) ∧ relT ws (G ws n) x1 s1 = some (x, s') := by
 split at h
 ·obtain ⟨⟨x1, s1⟩, h1, h2⟩ := bind_some h
  exact ⟨x1, s1, h1, h2⟩
 ·rename_i he
  simp only [Option.some.injEq, Prod.mk.injEq] at h
  obtain ⟨rfl, rfl⟩ := h
  refine ⟨nilX, s, G_at he, ?_⟩
  simp only [relT, isS_err he]
  rfl
set_option maxHeartbeats 8000000 in
theorem rrel_prs (F : Base) {ws : Ws} (hws : WsOk ws) {l : Value} (hW : HasW F ws l) (n : Nat) (h1 : RPrs F l 49 [.int .i64 2] (G ws n (.lev 2))) : RPrs F l 87 [] (fun s => if s.e = 0 then relG ws (G ws n) s else some (nilX, s)) := by
 intro F' hFF p s x s' hA hg hR
 have hW := hW.mono hFF
 have hol := hW.one'
 refine Does.rfin (does_of_svc (args := [PV l p]) mixed Tryz.func87 low87 (Nat.le_of_ble_eq_true rfl) fun w0 hw0 => ?_)
 simp only [*, fu87, ↓ZD, ZW, RO, simprocAttr]
 refine NewB.n ?_
 rintro b1 _ _
 simp only [*, ↓ZD, ZW, RO, simprocAttr]
 refine NewB.n ?_
 rintro b2 ⟨_, _, _⟩ _
 simp only [*, ↓ZD, ZW, RO, simprocAttr]
 refine NewB.n ?_
 rintro b3 ⟨_, _, _, _, _⟩ _
 simp only [*, ↓ZD, ZW, RO, simprocAttr]
 obtain ⟨x1, s1, hR1, hR2⟩ := rel_split hR
 clear hR
 refine CallE.rq (h1.mono hFF) hA hg hR1 (by simp only [*, ↓ZD, ZW, RO, simprocAttr]) ?_
 rintro p1 cs1 G1 hA1 hr1 ⟨_, ⟨_, _, _, _⟩, hx1, _⟩
 simp only [*, ↓ZD, ZW, RO, simprocAttr]
 refine NewB.n ?_
 rintro b4 ⟨_, _, _, _, _, _, _⟩ _
 simp only [*, ↓ZD, ZW, RO, simprocAttr]
 have hgs := hg.go hR1
 have hlen := hW.len
 clear hA hg hR1
 refine CallE.pure (rword_pure _ hW p1) ?_
 simp only [*, wdV, ↓ZD, ZW, RO, simprocAttr]
 refine NewB.n ?_
 rintro b5 ⟨_, _, _, _, _, _, _, _, _⟩ _
 simp only [*, wdV, ↓ZD, ZW, RO, simprocAttr]
 by_cases hc : s1.e = 0 ∧ (wk ws p1 = 5 ∨ wk ws p1 = 1)
 ·obtain rfl := hA1.ok hc.1
  have hd : (p1.e != 0 || ((((wdAt ws p1.p).1.1 : Nat) : Int) != 1 && (((wdAt ws p1.p).1.1 : Nat) : Int) != 5)) = false := by obtain ⟨h1, h2⟩ := hc; unfold wk at h2; rcases h2 with h2 | h2 <;> rw [h1, h2] <;> rfl
  have hk : ∀ t, isS ws p1 t = ((wdAt ws p1.p).1.2.1 == t) := fun t => by
   have : (p1.e == 0 && (wk ws p1 == 5 || wk ws p1 == 1)) = true := by
    rw [Bool.and_eq_true, Bool.or_eq_true, beq_iff_eq, beq_iff_eq, beq_iff_eq]; exact hc
   unfold isS; rw [this]; rfl
  replace hc : id (p1.e = 0) := hc.1
  have hw1 : ∀ t, ((wdAt ws p1.p).1.2.1 == t) = true → IntKind.i64.wrap (p1.p + 1) = p1.p + 1 := fun t h => by
   have := isS_range ((hk t).trans h); rw [wrap_i64]; omega
  simp only [relT, hk] at hR2
  rcases tf ((wdAt ws p1.p).1.2.1 == [104, 97, 115]) with hT | hT0
  ·have hw1 := hw1 _ hT
   clear hk
   have hx : (wdAt ws p1.p).1.2.1 = [104, 97, 115] := beq_iff_eq.1 hT
   clear hT
   simp only [hx] at hR2
   rw [if_neg (by decide), if_neg (by decide), if_neg (by decide), if_neg (by decide), if_neg (by decide), if_neg (by decide), if_neg (by decide), if_pos (by decide)] at hR2
   simp only [*, wdV, BQ, ↓ZD, ZW, RO, simprocAttr]
   refine NewB.n ?_
   rintro b6 ⟨_, _, _, _, _, _, _, _, _, _, _⟩ _
   simp only [*, wdV, BQ, ↓ZD, ZW, RO, simprocAttr]
   refine CallE.pure (rtake_pure _ hW (adv p1) 1 (by decide)) ?_
   simp only [*, wdV, BQ, ↓ZD, ZW, RO, simprocAttr]
   refine TreeL.open ?_
   simp only [*, wdV, BQ, ↓ZD, ZW, RO, simprocAttr]
   repeat' (refine And.intro ?_ ?_)
   all_goals (
    refine NewB.n ?_
    rintro b7 ⟨_, _, _, _, _, _, _, _, _, _, _, _, _⟩ _
    simp only [*, wdV, BQ, ↓ZD, ZW, RO, simprocAttr]
    simp only [Option.some.injEq, Prod.mk.injEq] at hR2
    obtain ⟨rfl, rfl⟩ := hR2
    repeat' (first | exact RFin.m _ Agr.rfl' ⟨rfl, rfl, rfl, rfl⟩ (fun he => rep_one (T := 38) ‹_› ‹_› (i64_lit rfl) (hr1 hc)) (Wk.cb ‹_› ‹_›) (by simp +contextual) | apply And.intro))
  rcases tf ((wdAt ws p1.p).1.2.1 == [105, 115]) with hT | hT1
  ·have hw1 := hw1 _ hT
   clear hk
   have hx : (wdAt ws p1.p).1.2.1 = [105, 115] := beq_iff_eq.1 hT
   clear hT hT0
   simp only [hx] at hR2
   rw [if_neg (by decide), if_neg (by decide), if_neg (by decide), if_neg (by decide), if_neg (by decide), if_neg (by decide), if_neg (by decide), if_neg (by decide), if_pos (by decide)] at hR2
   simp only [*, wdV, BQ, ↓ZD, ZW, RO, simprocAttr]
   refine NewB.n ?_
   rintro b6 ⟨_, _, _, _, _, _, _, _, _, _, _⟩ _
   simp only [*, wdV, BQ, ↓ZD, ZW, RO, simprocAttr]
   refine CallE.pure (rpath_pure _ hws hW (adv p1)) ?_
   simp only [*, wdV, BQ, ↓ZD, ZW, RO, simprocAttr]
   refine TreeL.open ?_
   simp only [*, wdV, BQ, ↓ZD, ZW, RO, simprocAttr]
   repeat' (refine And.intro ?_ ?_)
   all_goals (
    refine NewB.n ?_
    rintro b7 ⟨_, _, _, _, _, _, _, _, _, _, _, _, _⟩ _
    simp only [*, wdV, BQ, ↓ZD, ZW, RO, simprocAttr]
    simp only [Option.some.injEq, Prod.mk.injEq] at hR2
    obtain ⟨rfl, rfl⟩ := hR2
    repeat' (first | exact RFin.m _ Agr.rfl' ⟨rfl, rfl, rfl, rfl⟩ (fun he => rep_one (T := 38) ‹_› ‹_› (i64_lit rfl) (hr1 hc)) (Wk.cb ‹_› ‹_›) (by simp +contextual) | apply And.intro))
  rcases tf ((wdAt ws p1.p).1.2.1 == [61, 61]) with hT | hT2
  ·have hw1 := hw1 _ hT
   clear hk
   have hx : (wdAt ws p1.p).1.2.1 = [61, 61] := beq_iff_eq.1 hT
   clear hT hT0 hT1
   simp only [hx] at hR2
   rw [if_pos (by decide)] at hR2
   simp only [*, wdV, BQ, ↓ZD, ZW, RO, simprocAttr]
   refine NewB.n ?_
   rintro b6 ⟨_, _, _, _, _, _, _, _, _, _, _⟩ _
   simp only [*, wdV, BQ, ↓ZD, ZW, RO, simprocAttr]
   obtain ⟨⟨x2, s2⟩, hR3, hR2⟩ := map_some' hR2
   simp only [Prod.mk.injEq] at hR2
   obtain ⟨rfl, rfl⟩ := hR2
   refine CallE.rq (p := adv p1) (s := adv p1) (h1.mono hFF) Agr.rfl' hgs.adv hR3 (by simp only [*, ↓ZD, ZW, RO, simprocAttr]) ?_
   rintro p2 cs2 G2 hA2 hr2 ⟨_, ⟨_, _, _, _, _, _, _⟩, hx2, _⟩
   simp only [*, wdV, BQ, ↓ZD, ZW, RO, simprocAttr]
   refine CallN.pair (i64_lit rfl) (fun he => ((hr1 hc).mono hx2)) (fun he => (hr2 he)) ‹_› ‹_› (by simp only [*, ↓ZD, ZW, RO, simprocAttr]) ?_
   rintro cs3 G3 hr3 ⟨_, ⟨_, _, _, _, _, _, _⟩, hx3, _⟩
   simp only [*, wdV, BQ, ↓ZD, ZW, RO, simprocAttr]
   repeat' (first | exact RFin.g hA2 ‹_› hr3 ‹_› | apply And.intro)
  rcases tf ((wdAt ws p1.p).1.2.1 == [33, 61]) with hT | hT3
  ·have hw1 := hw1 _ hT
   clear hk
   have hx : (wdAt ws p1.p).1.2.1 = [33, 61] := beq_iff_eq.1 hT
   clear hT hT0 hT1 hT2
   simp only [hx] at hR2
   rw [if_neg (by decide), if_pos (by decide)] at hR2
   simp only [*, wdV, BQ, ↓ZD, ZW, RO, simprocAttr]
   refine NewB.n ?_
   rintro b6 ⟨_, _, _, _, _, _, _, _, _, _, _⟩ _
   simp only [*, wdV, BQ, ↓ZD, ZW, RO, simprocAttr]
   obtain ⟨⟨x2, s2⟩, hR3, hR2⟩ := map_some' hR2
   simp only [Prod.mk.injEq] at hR2
   obtain ⟨rfl, rfl⟩ := hR2
   refine CallE.rq (p := adv p1) (s := adv p1) (h1.mono hFF) Agr.rfl' hgs.adv hR3 (by simp only [*, ↓ZD, ZW, RO, simprocAttr]) ?_
   rintro p2 cs2 G2 hA2 hr2 ⟨_, ⟨_, _, _, _, _, _, _⟩, hx2, _⟩
   simp only [*, wdV, BQ, ↓ZD, ZW, RO, simprocAttr]
   refine CallN.pair (i64_lit rfl) (fun he => ((hr1 hc).mono hx2)) (fun he => (hr2 he)) ‹_› ‹_› (by simp only [*, ↓ZD, ZW, RO, simprocAttr]) ?_
   rintro cs3 G3 hr3 ⟨_, ⟨_, _, _, _, _, _, _⟩, hx3, _⟩
   simp only [*, wdV, BQ, ↓ZD, ZW, RO, simprocAttr]
   refine CallN.alone (i64_lit rfl) (fun he => (hr3 he)) ‹_› (by simp only [*, ↓ZD, ZW, RO, simprocAttr]) ?_
   rintro cs4 G4 hr4 ⟨_, ⟨_, _, _, _, _, _, _⟩, hx4, _⟩
   simp only [*, wdV, BQ, ↓ZD, ZW, RO, simprocAttr]
   repeat' (first | exact RFin.g hA2 ‹_› hr4 ‹_› | apply And.intro)
  rcases tf ((wdAt ws p1.p).1.2.1 == [60]) with hT | hT4
  ·have hw1 := hw1 _ hT
   clear hk
   have hx : (wdAt ws p1.p).1.2.1 = [60] := beq_iff_eq.1 hT
   clear hT hT0 hT1 hT2 hT3
   simp only [hx] at hR2
   rw [if_neg (by decide), if_neg (by decide), if_pos (by decide)] at hR2
   simp only [*, wdV, BQ, ↓ZD, ZW, RO, simprocAttr]
   refine NewB.n ?_
   rintro b6 ⟨_, _, _, _, _, _, _, _, _, _, _⟩ _
   simp only [*, wdV, BQ, ↓ZD, ZW, RO, simprocAttr]
   obtain ⟨⟨x2, s2⟩, hR3, hR2⟩ := map_some' hR2
   simp only [Prod.mk.injEq] at hR2
   obtain ⟨rfl, rfl⟩ := hR2
   refine CallE.rq (p := adv p1) (s := adv p1) (h1.mono hFF) Agr.rfl' hgs.adv hR3 (by simp only [*, ↓ZD, ZW, RO, simprocAttr]) ?_
   rintro p2 cs2 G2 hA2 hr2 ⟨_, ⟨_, _, _, _, _, _, _⟩, hx2, _⟩
   simp only [*, wdV, BQ, ↓ZD, ZW, RO, simprocAttr]
   refine CallN.pair (i64_lit rfl) (fun he => ((hr1 hc).mono hx2)) (fun he => (hr2 he)) ‹_› ‹_› (by simp only [*, ↓ZD, ZW, RO, simprocAttr]) ?_
   rintro cs3 G3 hr3 ⟨_, ⟨_, _, _, _, _, _, _⟩, hx3, _⟩
   simp only [*, wdV, BQ, ↓ZD, ZW, RO, simprocAttr]
   repeat' (first | exact RFin.g hA2 ‹_› hr3 ‹_› | apply And.intro)
  rcases tf ((wdAt ws p1.p).1.2.1 == [60, 61]) with hT | hT5
  ·have hw1 := hw1 _ hT
   clear hk
   have hx : (wdAt ws p1.p).1.2.1 = [60, 61] := beq_iff_eq.1 hT
   clear hT hT0 hT1 hT2 hT3 hT4
   simp only [hx] at hR2
   rw [if_neg (by decide), if_neg (by decide), if_neg (by decide), if_pos (by decide)] at hR2
   simp only [*, wdV, BQ, ↓ZD, ZW, RO, simprocAttr]
   refine NewB.n ?_
   rintro b6 ⟨_, _, _, _, _, _, _, _, _, _, _⟩ _
   simp only [*, wdV, BQ, ↓ZD, ZW, RO, simprocAttr]
   obtain ⟨⟨x2, s2⟩, hR3, hR2⟩ := map_some' hR2
   simp only [Prod.mk.injEq] at hR2
   obtain ⟨rfl, rfl⟩ := hR2
   refine CallE.rq (p := adv p1) (s := adv p1) (h1.mono hFF) Agr.rfl' hgs.adv hR3 (by simp only [*, ↓ZD, ZW, RO, simprocAttr]) ?_
   rintro p2 cs2 G2 hA2 hr2 ⟨_, ⟨_, _, _, _, _, _, _⟩, hx2, _⟩
   simp only [*, wdV, BQ, ↓ZD, ZW, RO, simprocAttr]
   refine CallN.pair (i64_lit rfl) (fun he => ((hr1 hc).mono hx2)) (fun he => (hr2 he)) ‹_› ‹_› (by simp only [*, ↓ZD, ZW, RO, simprocAttr]) ?_
   rintro cs3 G3 hr3 ⟨_, ⟨_, _, _, _, _, _, _⟩, hx3, _⟩
   simp only [*, wdV, BQ, ↓ZD, ZW, RO, simprocAttr]
   repeat' (first | exact RFin.g hA2 ‹_› hr3 ‹_› | apply And.intro)
  rcases tf ((wdAt ws p1.p).1.2.1 == [62]) with hT | hT6
  ·have hw1 := hw1 _ hT
   clear hk
   have hx : (wdAt ws p1.p).1.2.1 = [62] := beq_iff_eq.1 hT
   clear hT hT0 hT1 hT2 hT3 hT4 hT5
   simp only [hx] at hR2
   rw [if_neg (by decide), if_neg (by decide), if_neg (by decide), if_neg (by decide), if_pos (by decide)] at hR2
   simp only [*, wdV, BQ, ↓ZD, ZW, RO, simprocAttr]
   refine NewB.n ?_
   rintro b6 ⟨_, _, _, _, _, _, _, _, _, _, _⟩ _
   simp only [*, wdV, BQ, ↓ZD, ZW, RO, simprocAttr]
   obtain ⟨⟨x2, s2⟩, hR3, hR2⟩ := map_some' hR2
   simp only [Prod.mk.injEq] at hR2
   obtain ⟨rfl, rfl⟩ := hR2
   refine CallE.rq (p := adv p1) (s := adv p1) (h1.mono hFF) Agr.rfl' hgs.adv hR3 (by simp only [*, ↓ZD, ZW, RO, simprocAttr]) ?_
   rintro p2 cs2 G2 hA2 hr2 ⟨_, ⟨_, _, _, _, _, _, _⟩, hx2, _⟩
   simp only [*, wdV, BQ, ↓ZD, ZW, RO, simprocAttr]
   refine CallN.pair (i64_lit rfl) (fun he => (hr2 he)) (fun he => ((hr1 hc).mono hx2)) ‹_› ‹_› (by simp only [*, ↓ZD, ZW, RO, simprocAttr]) ?_
   rintro cs3 G3 hr3 ⟨_, ⟨_, _, _, _, _, _, _⟩, hx3, _⟩
   simp only [*, wdV, BQ, ↓ZD, ZW, RO, simprocAttr]
   repeat' (first | exact RFin.g hA2 ‹_› hr3 ‹_› | apply And.intro)
  rcases tf ((wdAt ws p1.p).1.2.1 == [62, 61]) with hT | hT7
  ·have hw1 := hw1 _ hT
   clear hk
   have hx : (wdAt ws p1.p).1.2.1 = [62, 61] := beq_iff_eq.1 hT
   clear hT hT0 hT1 hT2 hT3 hT4 hT5 hT6
   simp only [hx] at hR2
   rw [if_neg (by decide), if_neg (by decide), if_neg (by decide), if_neg (by decide), if_neg (by decide), if_pos (by decide)] at hR2
   simp only [*, wdV, BQ, ↓ZD, ZW, RO, simprocAttr]
   refine NewB.n ?_
   rintro b6 ⟨_, _, _, _, _, _, _, _, _, _, _⟩ _
   simp only [*, wdV, BQ, ↓ZD, ZW, RO, simprocAttr]
   obtain ⟨⟨x2, s2⟩, hR3, hR2⟩ := map_some' hR2
   simp only [Prod.mk.injEq] at hR2
   obtain ⟨rfl, rfl⟩ := hR2
   refine CallE.rq (p := adv p1) (s := adv p1) (h1.mono hFF) Agr.rfl' hgs.adv hR3 (by simp only [*, ↓ZD, ZW, RO, simprocAttr]) ?_
   rintro p2 cs2 G2 hA2 hr2 ⟨_, ⟨_, _, _, _, _, _, _⟩, hx2, _⟩
   simp only [*, wdV, BQ, ↓ZD, ZW, RO, simprocAttr]
   refine CallN.pair (i64_lit rfl) (fun he => (hr2 he)) (fun he => ((hr1 hc).mono hx2)) ‹_› ‹_› (by simp only [*, ↓ZD, ZW, RO, simprocAttr]) ?_
   rintro cs3 G3 hr3 ⟨_, ⟨_, _, _, _, _, _, _⟩, hx3, _⟩
   simp only [*, wdV, BQ, ↓ZD, ZW, RO, simprocAttr]
   repeat' (first | exact RFin.g hA2 ‹_› hr3 ‹_› | apply And.intro)
  rcases tf ((wdAt ws p1.p).1.2.1 == [105, 110]) with hT | hT8
  ·have hw1 := hw1 _ hT
   clear hk
   have hx : (wdAt ws p1.p).1.2.1 = [105, 110] := beq_iff_eq.1 hT
   clear hT hT0 hT1 hT2 hT3 hT4 hT5 hT6 hT7
   simp only [hx] at hR2
   rw [if_neg (by decide), if_neg (by decide), if_neg (by decide), if_neg (by decide), if_neg (by decide), if_neg (by decide), if_pos (by decide)] at hR2
   simp only [*, wdV, BQ, ↓ZD, ZW, RO, simprocAttr]
   refine NewB.n ?_
   rintro b6 ⟨_, _, _, _, _, _, _, _, _, _, _⟩ _
   simp only [*, wdV, BQ, ↓ZD, ZW, RO, simprocAttr]
   obtain ⟨⟨x2, s2⟩, hR3, hR2⟩ := map_some' hR2
   simp only [Prod.mk.injEq] at hR2
   obtain ⟨rfl, rfl⟩ := hR2
   refine CallE.rq (p := adv p1) (s := adv p1) (h1.mono hFF) Agr.rfl' hgs.adv hR3 (by simp only [*, ↓ZD, ZW, RO, simprocAttr]) ?_
   rintro p2 cs2 G2 hA2 hr2 ⟨_, ⟨_, _, _, _, _, _, _⟩, hx2, _⟩
   simp only [*, wdV, BQ, ↓ZD, ZW, RO, simprocAttr]
   refine CallN.pair (i64_lit rfl) (fun he => ((hr1 hc).mono hx2)) (fun he => (hr2 he)) ‹_› ‹_› (by simp only [*, ↓ZD, ZW, RO, simprocAttr]) ?_
   rintro cs3 G3 hr3 ⟨_, ⟨_, _, _, _, _, _, _⟩, hx3, _⟩
   simp only [*, wdV, BQ, ↓ZD, ZW, RO, simprocAttr]
   repeat' (first | exact RFin.g hA2 ‹_› hr3 ‹_› | apply And.intro)
  simp only [hT0, hT1, hT2, hT3, hT4, hT5, hT6, hT7, hT8, Bool.false_eq_true, if_false] at hR2
  simp only [Option.some.injEq, Prod.mk.injEq] at hR2
  obtain ⟨rfl, rfl⟩ := hR2
  simp only [*, wdV, ↓ZD, ZW, RO, simprocAttr]
  refine NewB.n ?_
  rintro b6 ⟨_, _, _, _, _, _, _, _, _, _, _⟩ _
  simp only [*, wdV, ↓ZD, ZW, RO, simprocAttr]
  refine TreeL.open ?_
  simp only [*, wdV, ↓ZD, ZW, RO, simprocAttr]
  repeat' (first | exact RFin.g hA1 ‹_› hr1 ‹_› | apply And.intro)
 ·have hk : ∀ t, isS ws s1 t = false := fun t => by
   by_cases he : s1.e = 0
   ·obtain rfl := hA1.ok he
    have : (p1.e == 0 && (wk ws p1 == 5 || wk ws p1 == 1)) = false := by
     rw [Bool.eq_false_iff]; intro h
     rw [Bool.and_eq_true, Bool.or_eq_true, beq_iff_eq, beq_iff_eq, beq_iff_eq] at h; exact hc h
    unfold isS; rw [this]; rfl
   ·exact isS_err he
  have hd : (p1.e != 0 || ((((wdAt ws p1.p).1.1 : Nat) : Int) != 1 && (((wdAt ws p1.p).1.1 : Nat) : Int) != 5)) = true := by
   rw [Bool.or_eq_true, Bool.and_eq_true, bne_iff_ne, bne_iff_ne, bne_iff_ne, hA1.e]
   by_cases he : s1.e = 0
   ·exact .inr ⟨fun h => hc ⟨he, .inr h⟩, fun h => hc ⟨he, .inl h⟩⟩
   ·exact .inl he
  clear hc
  simp only [relT, hk, Bool.false_eq_true, if_false, Option.some.injEq, Prod.mk.injEq] at hR2
  obtain ⟨rfl, rfl⟩ := hR2
  simp only [*, wdV, ↓ZD, ZW, RO, simprocAttr]
  refine TreeL.open ?_
  simp only [*, ↓ZD, ZW, RO, simprocAttr]
  repeat' (first | exact RFin.g hA1 ‹_› hr1 ‹_› | apply And.intro)
end Go.Proofs.YtkbhinfpndnnfaaGreatDoor
namespace Go.Proofs.YtkbhinfpndnnfaaGreatDoor
open Go Go.Eng
set_option maxHeartbeats 1000000
set_option linter.unusedSimpArgs false
set_option linter.unusedVariables false
set_option maxRecDepth 20000
theorem rmember_prs (F : Base) {ws : Ws} {l : Value} (hW : HasW F ws l) (N : Nat) (h1 : RPrs F l 99 [] (G ws N .prim)) (h2 : ∀ n ≤ N, RPrs F l 24 [] (G ws n .expr)) : RPrs F l 96 [] (G ws (N + 1) .member) := by
 intro F' hFF p s x s' hA hg hR
 have hW := hW.mono hFF
 have hol := hW.one'
 refine Does.rfin (does_of_svc (args := [PV l p]) mixed Tryz.func96 low96 (Nat.le_of_ble_eq_true rfl) fun w0 hw0 => ?_)
 simp only [*, fu96, ↓ZD, ZW, RO, simprocAttr]
 refine NewB.n ?_
 rintro b1 _ _
 simp only [*, ↓ZD, ZW, RO, simprocAttr]
 refine NewB.n ?_
 rintro b2 ⟨_, _, _⟩ _
 simp only [*, ↓ZD, ZW, RO, simprocAttr]
 refine NewB.n ?_
 rintro b3 ⟨_, _, _, _, _⟩ _
 simp only [*, ↓ZD, ZW, RO, simprocAttr]
 obtain ⟨x1, s1, hR1, hR2⟩ := mem_split hR
 refine CallE.rq (h1.mono hFF) hA hg hR1 (by simp only [*, ↓ZD, ZW, RO, simprocAttr]) ?_
 rintro p1 cs1 G1 hA1 hr1 ⟨_, ⟨_, _, _, _⟩, hx1, _⟩
 simp only [*, ↓ZD, ZW, RO, simprocAttr]
 refine NewB.n ?_
 rintro b4 ⟨_, _, _, _, _, _, _⟩ _
 simp only [*, ↓ZD, ZW, RO, simprocAttr]
 refine LoopL.inv (α := RowS) (RLvI ws F' b1 b2 b3 b4 N .mems x s') (fun y => [(1, some (.pointer (some ⟨b1, 0, none⟩))), (2, some (.pointer (some ⟨b2, 0, none⟩))), (3, some (.pointer (some ⟨b3, 0, none⟩))), (4, some (.pointer (some ⟨b4, 0, none⟩)))])
  (fun y => (b4, .cells y.cs.toArray 38 (0, 0)) :: (b3, .cells zx.toArray 38 (0, 0)) :: (b2, .cells zp.toArray 68 (0, 0)) :: (b1, .cells #[l, .int .i64 y.p.p, .int .i64 y.p.deep, .int .i64 y.p.e, .int .i64 y.p.bad] 68 (0, 0)) :: y.G) (fun y => y.m) ⟨p1, s1, cs1, G1, x1, N⟩ ⟨hA1, hg.go hR1, ‹_›, hr1, ⟨‹_›, ‹_›, ‹_›, ‹_›⟩, ‹_›, Nat.le_refl _, hR2⟩ (by simp only [*, ↓ZD, ZW, RO, simprocAttr]) (by simp only [*, ↓ZD, ZW, RO, simprocAttr]) ?_
 clear hR hR1 hR2 hA hg hA1 hr1 hx1
 rintro ⟨p, s, cs9, G9, x1, m⟩ ⟨hA, hg, hc9, hr9, ⟨_, _, _, _⟩, hw9, hm, hR⟩
 dsimp only at hA hg hc9 hr9 hw9 hm hR ⊢
 have hlen := hW.len
 by_cases he0 : s.e = 0
 ·obtain rfl := hA.ok he0
  have hd : (p.e == 0) = true := by simpa using he0
  obtain ⟨m, rfl⟩ : ∃ m', m = m' + 1 := by
   cases m with
   | zero => exact absurd he0 (G_zero hR).1
   | succ m => exact ⟨m, rfl⟩
  rw [G_succ, if_pos he0] at hR
  simp only [stepG] at hR
  unfold memsG at hR
  replace he0 : id (p.e = 0) := he0
  simp only [*, ↓ZD, ZW, RO, simprocAttr]
  refine CallE.pure (rIs_pure _ hW p [91]) ?_
  rcases tf (isS ws p [91]) with hi | hi
  ·rw [hi, if_pos rfl] at hR
   have hrg := isS_range hi
   have hw1 : IntKind.i64.wrap (p.p + 1) = p.p + 1 := by rw [wrap_i64]; omega
   simp only [*, ↓ZD, ZW, RO, simprocAttr]
   refine CallE.pure (rtake_pure _ hW (adv p) 3 (by decide)) ?_
   simp only [*, ↓ZD, ZW, RO, simprocAttr]
   refine NewB.n ?_
   rintro b5 ⟨_, _, _, _, _, _, _, _, _⟩ _
   simp only [*, ↓ZD, ZW, RO, simprocAttr]
   refine CallE.pure (rmust_pure _ hW (takeS ws (adv p) 3).2 [93]) ?_
   simp only [*, ↓ZD, ZW, RO, simprocAttr]
   refine invK.on ⟨(mustS ws (takeS ws (adv p) 3).2 [93]), (mustS ws (takeS ws (adv p) 3).2 [93]), _, (b5, .cells cs9.toArray 38 (0, 0)) :: G9, oneX' 18 (takeS ws (adv p) 3).1 x1, m⟩ ⟨Agr.rfl', hg.adv.take.must, ⟨rfl, rfl, rfl, rfl⟩, fun he => rep_one ‹_› ‹_› (i64_lit rfl) (hr9 he0), by simp only [*, ↓ZD, ZW, RO, simprocAttr], hw9.cb ‹_›, (by show m ≤ N; omega), hR⟩ (by show m < m + 1; omega) (by simp only [*, ↓ZD, ZW, RO, simprocAttr]) (by simp only [xcells, lv0]; simp only [*, ↓ZD, ZW, RO, simprocAttr])
  rw [hi, if_neg (by decide)] at hR
  simp only [*, ↓ZD, ZW, RO, simprocAttr]
  refine CallE.pure (rIs_pure _ hW p [46]) ?_
  rcases tf (isS ws p [46]) with hj | hj
  ·rw [hj, if_pos rfl] at hR
   simp only at hR
   have hrg := isS_range hj
   have hw1 : IntKind.i64.wrap (p.p + 1) = p.p + 1 := by rw [wrap_i64]; omega
   simp only [*, ↓ZD, ZW, RO, simprocAttr]
   refine CallE.pure (rtake_pure _ hW (adv p) 1 (by decide)) ?_
   simp only [*, ↓ZD, ZW, RO, simprocAttr]
   refine CallE.pure (rIs_pure _ hW (takeS ws (adv p) 1).2 [40]) ?_
   have hgt := hg.adv.take (ws := ws) (k := 1)
   generalize hT : takeS ws (adv p) 1 = t at *
   clear hw1 hrg
   rcases tf (isS ws t.2 [40]) with hk | hk
   ·rw [hk, if_neg (by decide)] at hR
    rcases tf (t.1 == [99, 111, 110, 116, 97, 105, 110, 115]) with hM | hM0
    ·have hx : t.1 = [99, 111, 110, 116, 97, 105, 110, 115] := beq_iff_eq.1 hM
     clear hM hT
     have hm1 : methI t.1 = 21 := by rw [hx]; rfl
     rw [if_neg (by rw [hm1]; decide)] at hR
     rw [hm1] at hR
     have hrg2 := isS_range hk
     have hw1 : IntKind.i64.wrap (t.2.p + 1) = t.2.p + 1 := by rw [wrap_i64]; omega
     obtain ⟨⟨y, t2⟩, hR3, hR4⟩ := bind_some hR
     simp only at hR4
     clear hR hm1
     simp only [*, BQ, ↓ZD, ZW, RO, simprocAttr]
     refine NewB.n ?_
     rintro b5 ⟨_, _, _, _, _, _, _, _, _⟩ _
     simp only [*, ↓ZD, ZW, RO, simprocAttr]
     refine CallE.rq (p := adv t.2) (s := adv t.2) ((h2 m (by omega)).mono hFF) Agr.rfl' hgt.adv hR3 (by simp only [*, ↓ZD, ZW, RO, simprocAttr]) ?_
     rintro p10 cs10 G10 hA10 hr10 ⟨_, ⟨_, _, _, _, _, _⟩, hx10, _⟩
     simp only [*, ↓ZD, ZW, RO, simprocAttr]
     refine CallE.pair (i64_lit rfl) (fun he => ((hr9 he0).mono hx10)) (fun he => (hr10 he)) ‹_› ‹_› (by simp only [*, ↓ZD, ZW, RO, simprocAttr]) ?_
     rintro cs11 G11 hr11 ⟨_, ⟨_, _, _, _, _, _⟩, hx11, _⟩
     simp only [*, ↓ZD, ZW, RO, simprocAttr]
     refine CallE.pure (rmust_pure _ hW p10 [41]) ?_
     simp only [*, ↓ZD, ZW, RO, simprocAttr]
     refine invK.on ⟨(mustS ws p10 [41]), (mustS ws t2 [41]), cs11, G11, twoX 21 x1 y, m⟩ ⟨hA10.must, (hgt.adv.go hR3).must, ‹_›, fun he => hr11 (must_e he), ⟨‹_›, ‹_›, ‹_›, ‹_›⟩, ‹_›, (by show m ≤ N; omega), hR4⟩ (by show m < m + 1; omega) (by simp only [*, ↓ZD, ZW, RO, simprocAttr]) (by simp only [*, ↓ZD, ZW, RO, simprocAttr])
    rcases tf (t.1 == [99, 111, 110, 116, 97, 105, 110, 115, 65, 108, 108]) with hM | hM1
    ·have hx : t.1 = [99, 111, 110, 116, 97, 105, 110, 115, 65, 108, 108] := beq_iff_eq.1 hM
     clear hM hT
     have hm1 : methI t.1 = 22 := by rw [hx]; rfl
     rw [if_neg (by rw [hm1]; decide)] at hR
     rw [hm1] at hR
     have hrg2 := isS_range hk
     have hw1 : IntKind.i64.wrap (t.2.p + 1) = t.2.p + 1 := by rw [wrap_i64]; omega
     obtain ⟨⟨y, t2⟩, hR3, hR4⟩ := bind_some hR
     simp only at hR4
     clear hR hm1
     simp only [*, BQ, ↓ZD, ZW, RO, simprocAttr]
     refine NewB.n ?_
     rintro b5 ⟨_, _, _, _, _, _, _, _, _⟩ _
     simp only [*, ↓ZD, ZW, RO, simprocAttr]
     refine CallE.rq (p := adv t.2) (s := adv t.2) ((h2 m (by omega)).mono hFF) Agr.rfl' hgt.adv hR3 (by simp only [*, ↓ZD, ZW, RO, simprocAttr]) ?_
     rintro p10 cs10 G10 hA10 hr10 ⟨_, ⟨_, _, _, _, _, _⟩, hx10, _⟩
     simp only [*, ↓ZD, ZW, RO, simprocAttr]
     refine CallE.pair (i64_lit rfl) (fun he => ((hr9 he0).mono hx10)) (fun he => (hr10 he)) ‹_› ‹_› (by simp only [*, ↓ZD, ZW, RO, simprocAttr]) ?_
     rintro cs11 G11 hr11 ⟨_, ⟨_, _, _, _, _, _⟩, hx11, _⟩
     simp only [*, ↓ZD, ZW, RO, simprocAttr]
     refine CallE.pure (rmust_pure _ hW p10 [41]) ?_
     simp only [*, ↓ZD, ZW, RO, simprocAttr]
     refine invK.on ⟨(mustS ws p10 [41]), (mustS ws t2 [41]), cs11, G11, twoX 22 x1 y, m⟩ ⟨hA10.must, (hgt.adv.go hR3).must, ‹_›, fun he => hr11 (must_e he), ⟨‹_›, ‹_›, ‹_›, ‹_›⟩, ‹_›, (by show m ≤ N; omega), hR4⟩ (by show m < m + 1; omega) (by simp only [*, ↓ZD, ZW, RO, simprocAttr]) (by simp only [*, ↓ZD, ZW, RO, simprocAttr])
    rcases tf (t.1 == [99, 111, 110, 116, 97, 105, 110, 115, 65, 110, 121]) with hM | hM2
    ·have hx : t.1 = [99, 111, 110, 116, 97, 105, 110, 115, 65, 110, 121] := beq_iff_eq.1 hM
     clear hM hT
     have hm1 : methI t.1 = 23 := by rw [hx]; rfl
     rw [if_neg (by rw [hm1]; decide)] at hR
     rw [hm1] at hR
     have hrg2 := isS_range hk
     have hw1 : IntKind.i64.wrap (t.2.p + 1) = t.2.p + 1 := by rw [wrap_i64]; omega
     obtain ⟨⟨y, t2⟩, hR3, hR4⟩ := bind_some hR
     simp only at hR4
     clear hR hm1
     simp only [*, BQ, ↓ZD, ZW, RO, simprocAttr]
     refine NewB.n ?_
     rintro b5 ⟨_, _, _, _, _, _, _, _, _⟩ _
     simp only [*, ↓ZD, ZW, RO, simprocAttr]
     refine CallE.rq (p := adv t.2) (s := adv t.2) ((h2 m (by omega)).mono hFF) Agr.rfl' hgt.adv hR3 (by simp only [*, ↓ZD, ZW, RO, simprocAttr]) ?_
     rintro p10 cs10 G10 hA10 hr10 ⟨_, ⟨_, _, _, _, _, _⟩, hx10, _⟩
     simp only [*, ↓ZD, ZW, RO, simprocAttr]
     refine CallE.pair (i64_lit rfl) (fun he => ((hr9 he0).mono hx10)) (fun he => (hr10 he)) ‹_› ‹_› (by simp only [*, ↓ZD, ZW, RO, simprocAttr]) ?_
     rintro cs11 G11 hr11 ⟨_, ⟨_, _, _, _, _, _⟩, hx11, _⟩
     simp only [*, ↓ZD, ZW, RO, simprocAttr]
     refine CallE.pure (rmust_pure _ hW p10 [41]) ?_
     simp only [*, ↓ZD, ZW, RO, simprocAttr]
     refine invK.on ⟨(mustS ws p10 [41]), (mustS ws t2 [41]), cs11, G11, twoX 23 x1 y, m⟩ ⟨hA10.must, (hgt.adv.go hR3).must, ‹_›, fun he => hr11 (must_e he), ⟨‹_›, ‹_›, ‹_›, ‹_›⟩, ‹_›, (by show m ≤ N; omega), hR4⟩ (by show m < m + 1; omega) (by simp only [*, ↓ZD, ZW, RO, simprocAttr]) (by simp only [*, ↓ZD, ZW, RO, simprocAttr])
    have hm0 : methI t.1 = 0 := by
     unfold methI
     rw [if_neg (fun h => by rw [h] at hM0; cases hM0), if_neg (fun h => by rw [h] at hM1; cases hM1), if_neg (fun h => by rw [h] at hM2; cases hM2)]
    rw [if_pos hm0] at hR
    simp only [Option.some.injEq, Prod.mk.injEq] at hR
    obtain ⟨rfl, rfl⟩ := hR
    simp only [*, ↓ZD, ZW, RO, simprocAttr]
    refine TreeL.open ?_
    simp only [*, ↓ZD, ZW, RO, simprocAttr]
    repeat' (refine And.intro ?_ ?_)
    all_goals (
     refine CallQ.of _ (rfail_pure _ (hW.mono le_up) t.2 10) ?_
     simp only [*, ↓ZD, ZW, RO, simprocAttr]
     repeat' (first | exact RFin.g Agr.rfl' ‹_› (fun he => absurd he (failS_e (by decide))) ‹_› | apply And.intro))
   rw [hk, if_pos rfl] at hR
   simp only [*, ↓ZD, ZW, RO, simprocAttr]
   refine NewB.n ?_
   rintro b5 ⟨_, _, _, _, _, _, _, _, _⟩ _
   simp only [*, ↓ZD, ZW, RO, simprocAttr]
   refine invK.on ⟨t.2, t.2, _, (b5, .cells cs9.toArray 38 (0, 0)) :: G9, oneX' 18 t.1 x1, m⟩ ⟨Agr.rfl', hgt, ⟨rfl, rfl, rfl, rfl⟩, fun he => rep_one ‹_› ‹_› (i64_lit rfl) (hr9 he0), by simp only [*, ↓ZD, ZW, RO, simprocAttr], hw9.cb ‹_›, (by show m ≤ N; omega), hR⟩ (by show m < m + 1; omega) (by simp only [*, ↓ZD, ZW, RO, simprocAttr]) (by simp only [xcells, lv0]; simp only [*, ↓ZD, ZW, RO, simprocAttr])
  rw [hj, if_neg (by decide)] at hR
  simp only [Option.some.injEq, Prod.mk.injEq] at hR
  obtain ⟨rfl, rfl⟩ := hR
  simp only [*, ↓ZD, ZW, RO, simprocAttr]
  refine TreeL.open ?_
  simp only [*, ↓ZD, ZW, RO, simprocAttr]
  repeat' (first | exact RFin.g hA ‹_› hr9 ‹_› | apply And.intro)
 ·have hd : (p.e == 0) = false := by rw [hA.e]; simpa using he0
  obtain ⟨rfl, rfl⟩ := G_err he0 _ _ hR
  simp only [*, ↓ZD, ZW, RO, simprocAttr]
  refine TreeL.open ?_
  simp only [*, ↓ZD, ZW, RO, simprocAttr]
  repeat' (first | exact RFin.g hA ‹_› (fun h => absurd h he0) ‹_› | apply And.intro)
end Go.Proofs.YtkbhinfpndnnfaaGreatDoor
namespace Go.Proofs.YtkbhinfpndnnfaaGreatDoor
open Go Go.Eng
set_option maxHeartbeats 1000000
set_option linter.unusedSimpArgs false
set_option linter.unusedVariables false
set_option maxRecDepth 20000
structure RItI (F : Base) (ws : Ws) (b1 b2 b3 b4 : Nat) (op : Int) (N : Nat) (xF : Ex') (sF : St) (y : ItS × Nat) : Prop where
 h : ItOk F b1 b4 y.1
 k2 : Nb b2 y.1.Hk ∧ Nb b3 y.1.Hk
 n2 : Nb b2 y.1.Hn ∧ Nb b3 y.1.Hn
 g2 : Nb b2 y.1.G ∧ Nb b3 y.1.G
 n : op ≠ 20 → y.1.ns = [] ∧ y.1.Hn = [] ∧ y.1.vn = .slice none 0 0
 c : y.1.s.e = 0 → (y.1.css.length : Int) ≤ y.1.s.p ∧ y.1.s.p ≤ ws.length
 m : y.2 ≤ N
 R : G ws y.2 (.its op y.1.ns y.1.ks) y.1.s = some (xF, sF)
theorem Off.nb {b bo : Nat} {H : Hp} (h : Off b bo H) : Nb b H ∧ Nb bo H := ⟨.of fun e he => (h e he).1, .of fun e he => (h e he).2⟩
theorem djs {A B : Hp} (h : ∀ e ∈ A, ∀ e' ∈ B, e.1 ≠ e'.1) : Dj A B ∧ Dj B A := ⟨Dj.iff.2 fun e he e' he' => (h e he e' he').symm, Dj.iff.2 fun e he e' he' => h e' he' e he⟩
theorem must_in {ws : Ws} {s : St} {t : Str} (h : (mustS ws s t).e = 0) : 0 ≤ s.p ∧ s.p < ws.length ∧ (mustS ws s t).p = s.p + 1 := by
 unfold mustS at *
 cases hi : isS ws s t with
 | true => have := isS_range hi; exact ⟨this.1, this.2, rfl⟩
 | false => rw [hi, if_neg (by decide)] at h; exact absurd h (failS_e (by decide))
theorem head_fwd {ws : Ws} {op : Int} {ns : List Str} {s : St} : Fwd 0 s (headS ws op ns s).2 := Fwd.head
set_option maxHeartbeats 8000000 in
theorem ritems19_does (F : Base) {ws : Ws} (hws : WsOk ws) {l : Value} (hW : HasW F ws l) (N : Nat) (h1 : ∀ n ≤ N, RPrs F l 24 [] (G ws n .expr)) (F' : Base) (hFF : ∀ b o, F b = some o → F' b = some o) (p s' : St) (x : Ex') (hg : Good p) (hp : 0 ≤ p.p ∧ p.p < ws.length) (hR : itemsG ws (G ws N) 19 (adv p) = some (x, s')) :
  Does Tryz.prog F' 102 [PV l p, .string (bs [93]), .int .i64 19].toArray [] (RPost F' l x s') := by
 have hW := hW.mono hFF
 have hol := hW.one'
 have hlen := hW.len
 have hws1 := hws.1
 have hw1 : IntKind.i64.wrap (p.p + 1) = p.p + 1 := by rw [wrap_i64]; omega
 refine Does.rfin (does_of_svc (args := [PV l p, .string (bs [93]), .int .i64 19]) mixed Tryz.func102 low102 (Nat.le_of_ble_eq_true rfl) fun w0 hw0 => ?_)
 simp only [*, fu102, ↓ZD, ZW, RO, simprocAttr]
 refine NewB.n ?_
 rintro b1 _ _
 simp only [*, ↓ZD, ZW, RO, simprocAttr]
 refine NewB.n ?_
 rintro b2 ⟨_, _, _⟩ _
 simp only [*, ↓ZD, ZW, RO, simprocAttr]
 refine NewB.n ?_
 rintro b3 ⟨_, _, _, _, _⟩ _
 simp only [*, ↓ZD, ZW, RO, simprocAttr]
 refine NewB.n ?_
 rintro b4 ⟨_, _, _, _, _, _, _⟩ _
 simp only [*, ↓ZD, ZW, RO, simprocAttr]
 unfold itemsG at hR
 refine CallE.pure (rIs_pure _ hW (adv p) [93]) ?_
 rw [show endOf 19 = [93] from rfl] at hR
 rcases tf (isS ws (adv p) [93]) with hi | hi
 ·rw [hi, if_pos rfl] at hR
  simp only [Option.some.injEq, Prod.mk.injEq] at hR
  obtain ⟨rfl, rfl⟩ := hR
  have hrg := isS_range hi
  have hw3 : IntKind.i64.wrap (p.p + 1 + 1) = p.p + 1 + 1 := by have : (adv p).p = p.p + 1 := rfl; rw [wrap_i64]; omega
  simp only [*, ↓ZD, ZW, RO, simprocAttr]
  refine TreeL.open ?_
  simp only [*, ↓ZD, ZW, RO, simprocAttr]
  repeat' (first | exact RFin.m (p' := adv (adv p)) [] Agr.rfl' ⟨rfl, rfl, rfl, rfl⟩ (fun _ => repP_leaf (op := 19) (v := lv0) (nm := []) (i64_lit rfl) (i64_lit rfl) (i64_lit rfl)) Wk.nil all_nil | apply And.intro)
 rw [hi, if_neg (by decide)] at hR
 simp only [*, ↓ZD, ZW, RO, simprocAttr]
 refine LoopL.inv (α := ItS × Nat) (RItI F' ws b1 b2 b3 b4 19 N x s')
  (fun y => [(1, some (.string (bs [93]))), (2, some (.int .i64 19)), (3, some (.pointer (some ⟨b1, 0, none⟩))), (6, some (.pointer (some ⟨b2, 0, none⟩))), (7, some (.pointer (some ⟨b3, 0, none⟩))), (8, some (.pointer (some ⟨b4, 0, none⟩)))])
  (fun y => (b4, outO 19 y.1.vk y.1.vn) :: (b3, .cells zx.toArray 38 (0, 0)) :: (b2, .cells zp.toArray 68 (0, 0)) :: (b1, .cells #[l, .int .i64 y.1.p.p, .int .i64 y.1.p.deep, .int .i64 y.1.p.e, .int .i64 y.1.p.bad] 68 (0, 0)) :: (y.1.Hk ++ (y.1.Hn ++ y.1.G))) (fun y => y.2) (⟨adv p, adv p, [], [], [], .slice none 0 0, .slice none 0 0, [], [], []⟩, N)
  ⟨it_nil hg.adv, ⟨trivial, trivial⟩, ⟨trivial, trivial⟩, ⟨trivial, trivial⟩, fun _ => ⟨rfl, rfl, rfl⟩, fun _ => ⟨by show (0 : Int) ≤ p.p + 1; omega, by show p.p + 1 ≤ ws.length; omega⟩, Nat.le_refl _, hR⟩ (by simp only [*, ↓ZD, ZW, RO, simprocAttr]) (by simp only [*, adv, ↓ZD, ZW, RO, simprocAttr]) ?_
 clear hR hi hw1 hp hg
 rintro ⟨⟨p, s, ks, ns, css, vk, vn, Hk, Hn, G0⟩, m⟩ ⟨⟨hA, hg, hk, h12, hn, hnl, hr, ok, on, og, kn, kg, ng, hw, hle⟩, ok2, on2, og2, hn0, hc, hm, hR⟩
 dsimp only at hA hg hk h12 hn hnl hr ok on og kn kg ng hw hle ok2 on2 og2 hn0 hc hm hR ⊢
 obtain ⟨base, capk, hvk, hck⟩ := hk.len_le
 subst hvk
 have hvn : oneCell vn = true := by obtain ⟨_, _, h, -⟩ := hn.len_le; rw [h]; rfl
 have a1 := ok.nb
 have a2 := on.nb
 have a3 := og.nb
 have a4 := djs kn
 have a5 := djs kg
 have a6 := djs ng
 have nk := hk.noF
 have hwk := OwnS.sub hk
 clear ok on og kn kg ng
 by_cases he0 : s.e = 0
 ·obtain rfl := hA.ok he0
  have hd : (p.e == 0) = true := by simpa using he0
  obtain ⟨m, rfl⟩ : ∃ m', m = m' + 1 := by
   cases m with
   | zero => exact absurd he0 (G_zero hR).1
   | succ m => exact ⟨m, rfl⟩
  rw [G_succ, if_pos he0] at hR
  simp only [stepG, itsG] at hR
  obtain ⟨⟨y1, s1⟩, hR3, hR4⟩ := bind_some hR
  simp only at hR4
  have hfw := (head_fwd (ws := ws) (op := 19) (ns := ns) (s := p)).trans (G_goes ws m _ _ _ hR3)
  have h20 : s1.e = 0 → p.p ≤ s1.p := fun he => by have := (hfw he).2.1; simp only at this; omega
  obtain ⟨hc0, hc9⟩ := hc he0
  have hgq : Good (headS ws 19 ns p).2 := hg.fwd (head_fwd (ws := ws) (op := 19) (ns := ns) (s := p))
  clear hR hc
  replace he0 : id (p.e = 0) := he0
  obtain ⟨rfl, rfl, rfl⟩ := hn0 (by decide)
  rw [show headS ws 19 [] p = ([], p) from if_neg (by decide)] at hR3 hR4 hgq
  simp only at hR3 hR4 hgq
  clear hn0 a2 a4 a6 hfw
  simp only [List.nil_append]
  simp only [*, ↓ZD, ZW, RO, simprocAttr]
  refine NewB.n ?_
  intro b5 hz5 hF5
  simp only [Nb_cons, Nb_app, Nb_nil] at hz5
  simp only [*, List.append_assoc, List.append_nil, ↓ZD, ZW, RO, simprocAttr]
  refine CallE.rq (p := p) (s := p) ((h1 m (by omega)).mono hFF) Agr.rfl' hgq hR3 (by simp only [*, List.append_assoc, List.append_nil, ↓ZD, ZW, RO, simprocAttr]) ?_
  rintro p1 cs1 G1 hA1 hr1 ⟨c12, hd1, hx1, hw1⟩
  simp only [Dj_cons, Dj_app, Dj_nil] at hd1
  have cok := c12.2.1
  simp only [*, List.append_assoc, List.append_nil, ↓ZD, ZW, RO, simprocAttr]
  refine NewB.n ?_
  intro b6 hz6 hF6
  simp only [Nb_cons, Nb_app, Nb_nil] at hz6
  simp only [*, List.append_assoc, List.append_nil, ↓ZD, ZW, RO, simprocAttr]
  have d1 : Dj G1 Hk := Dj.symm (by simp only [*, ↓ZD, ZW, RO, simprocAttr])
  refine EfL.more (m := 1) (nw := cs1) hk (by simp only [*, ↓ZD, ZW, RO, simprocAttr]) (by simp only [*, ↓ZD, ZW, RO, simprocAttr]) (by rw [c12.1]) (List.all_eq_true.1 (Bool.and_eq_true_iff.1 cok).1) (by intro h; rw [h] at c12; cases c12.1) (by omega) ?_
  intro b7 cap sp hs hcap hcm hF7 hz7
  simp only [Nb_cons, Nb_app, Nb_nil] at hz7
  have hy := ItOk.add (F := F') (b := b1) (bo := b4) (ns := []) hA1 (hgq.go hR3) h12 c12.1 OwnS.nil (fun c h => by cases h) (fun he => ⟨⟨(hr he0).1, fun i c t hc ht => ((hr he0).2 i c t hc ht).mono hx1⟩, hr1 he⟩) hF7 hs hcap hcm (by simp only [*, ↓ZD, ZW, RO, simprocAttr]) (by simp only [*, ↓ZD, ZW, RO, simprocAttr]) (fun e he => by cases he) (Nb.all (b := b1) (H := G1) (by simp only [*, ↓ZD, ZW, RO, simprocAttr])) (Nb.all (b := b4) (H := G1) (by simp only [*, ↓ZD, ZW, RO, simprocAttr])) (Nb.all (b := b7) (H := []) (by simp only [*, ↓ZD, ZW, RO, simprocAttr])) (Nb.all (b := b7) (H := G1) (by simp only [*, ↓ZD, ZW, RO, simprocAttr])) (fun e he e' he' => (Dj.iff.1 (show Dj [] G1 by simp only [*, ↓ZD, ZW, RO, simprocAttr]) e he e' he').symm) hw1 (Nat.zero_le _)
  simp only [show endOf 19 = [93] from rfl] at hR4
  simp only [*, List.append_assoc, List.append_nil, ↓ZD, ZW, RO, simprocAttr]
  refine CallE.pure (rIs_pure _ hW p1 [93]) ?_
  rw [show isS ws p1 [93] = isS ws s1 [93] from hA1.is]
  rcases tf (isS ws s1 [93]) with hi | hi
  ·rw [hi, if_pos rfl] at hR4
   simp only [Option.some.injEq, Prod.mk.injEq] at hR4
   obtain ⟨rfl, rfl⟩ := hR4
   have he1 := isS_ok hi
   obtain rfl := hA1.ok he1
   have hrg := isS_range hi
   have hw2 : IntKind.i64.wrap (p1.p + 1) = p1.p + 1 := by rw [wrap_i64]; omega
   replace he1 : id (p1.e = 0) := he1
   simp only [*, List.append_assoc, List.append_nil, ↓ZD, ZW, RO, simprocAttr]
   refine TreeL.open ?_
   simp only [*, ↓ZD, ZW, RO, simprocAttr]
   repeat' (first | exact RFin.m (p' := adv p1) _ Agr.rfl' ⟨rfl, rfl, rfl, rfl⟩ (fun he => it_rep hy (i64_lit rfl) he1 (by simp only [List.length_append, List.length_cons, List.length_nil]; omega)) (it_wkx hy) (by simp +contextual) | apply And.intro)
  rw [hi, if_neg (by decide)] at hR4
  simp only [*, List.append_assoc, List.append_nil, ↓ZD, ZW, RO, simprocAttr]
  refine CallE.pure (rmust_pure _ hW p1 [44]) ?_
  simp only [*, List.append_assoc, List.append_nil, ↓ZD, ZW, RO, simprocAttr]
  refine invK.on ⟨{ (_ : ItS) with p := mustS ws p1 [44], s := mustS ws s1 [44] }, m⟩ ⟨hy.st hA1.must (hgq.go hR3).must fun he => must_e he, ⟨by simp only [*, ↓ZD, ZW, RO, simprocAttr], by simp only [*, ↓ZD, ZW, RO, simprocAttr]⟩, ⟨trivial, trivial⟩, ⟨by simp only [*, ↓ZD, ZW, RO, simprocAttr], by simp only [*, ↓ZD, ZW, RO, simprocAttr]⟩, (fun _ => ⟨rfl, rfl, rfl⟩), fun he => ?_, by show m ≤ N; omega, hR4⟩ (by show m < m + 1; omega) (by simp only [*, ↓ZD, ZW, RO, simprocAttr]) (by simp only [*, List.append_assoc, List.append_nil, ↓ZD, ZW, RO, simprocAttr])
  have hm1 := must_in he
  have hs1 := must_e he
  have hf := h20 hs1
  have h0 := hc0
  show ((css ++ [cs1]).length : Int) ≤ (mustS ws s1 [44]).p ∧ (mustS ws s1 [44]).p ≤ ws.length
  rw [List.length_append, List.length_cons, List.length_nil, hm1.2.2]
  omega
 ·have hd : (p.e == 0) = false := by rw [hA.e]; simpa using he0
  obtain ⟨rfl, rfl⟩ := G_err he0 _ _ hR
  simp only [*, ↓ZD, ZW, RO, simprocAttr]
  refine TreeL.open ?_
  simp only [*, ↓ZD, ZW, RO, simprocAttr]
  repeat' (first | exact ⟨p, _, [], hA, rfl, ⟨rfl, by simp only [*, ↓ZD, ZW, RO, simprocAttr], rfl, rfl⟩, fun he => absurd he he0, Wk.nil, all_nil⟩ | apply And.intro)
set_option maxHeartbeats 8000000 in
theorem ritems20_does (F : Base) {ws : Ws} (hws : WsOk ws) {l : Value} (hW : HasW F ws l) (N : Nat) (h1 : ∀ n ≤ N, RPrs F l 24 [] (G ws n .expr)) (F' : Base) (hFF : ∀ b o, F b = some o → F' b = some o) (p s' : St) (x : Ex') (hg : Good p) (hp : 0 ≤ p.p ∧ p.p < ws.length) (hR : itemsG ws (G ws N) 20 (adv p) = some (x, s')) :
  Does Tryz.prog F' 102 [PV l p, .string (bs [125]), .int .i64 20].toArray [] (RPost F' l x s') := by
 have hW := hW.mono hFF
 have hol := hW.one'
 have hlen := hW.len
 have hws1 := hws.1
 have hw1 : IntKind.i64.wrap (p.p + 1) = p.p + 1 := by rw [wrap_i64]; omega
 refine Does.rfin (does_of_svc (args := [PV l p, .string (bs [125]), .int .i64 20]) mixed Tryz.func102 low102 (Nat.le_of_ble_eq_true rfl) fun w0 hw0 => ?_)
 simp only [*, fu102, ↓ZD, ZW, RO, simprocAttr]
 refine NewB.n ?_
 rintro b1 _ _
 simp only [*, ↓ZD, ZW, RO, simprocAttr]
 refine NewB.n ?_
 rintro b2 ⟨_, _, _⟩ _
 simp only [*, ↓ZD, ZW, RO, simprocAttr]
 refine NewB.n ?_
 rintro b3 ⟨_, _, _, _, _⟩ _
 simp only [*, ↓ZD, ZW, RO, simprocAttr]
 refine NewB.n ?_
 rintro b4 ⟨_, _, _, _, _, _, _⟩ _
 simp only [*, ↓ZD, ZW, RO, simprocAttr]
 unfold itemsG at hR
 refine CallE.pure (rIs_pure _ hW (adv p) [125]) ?_
 rw [show endOf 20 = [125] from rfl] at hR
 rcases tf (isS ws (adv p) [125]) with hi | hi
 ·rw [hi, if_pos rfl] at hR
  simp only [Option.some.injEq, Prod.mk.injEq] at hR
  obtain ⟨rfl, rfl⟩ := hR
  have hrg := isS_range hi
  have hw3 : IntKind.i64.wrap (p.p + 1 + 1) = p.p + 1 + 1 := by have : (adv p).p = p.p + 1 := rfl; rw [wrap_i64]; omega
  simp only [*, ↓ZD, ZW, RO, simprocAttr]
  refine TreeL.open ?_
  simp only [*, ↓ZD, ZW, RO, simprocAttr]
  repeat' (first | exact RFin.m (p' := adv (adv p)) [] Agr.rfl' ⟨rfl, rfl, rfl, rfl⟩ (fun _ => repP_leaf (op := 20) (v := lv0) (nm := []) (i64_lit rfl) (i64_lit rfl) (i64_lit rfl)) Wk.nil all_nil | apply And.intro)
 rw [hi, if_neg (by decide)] at hR
 simp only [*, ↓ZD, ZW, RO, simprocAttr]
 refine LoopL.inv (α := ItS × Nat) (RItI F' ws b1 b2 b3 b4 20 N x s')
  (fun y => [(1, some (.string (bs [125]))), (2, some (.int .i64 20)), (3, some (.pointer (some ⟨b1, 0, none⟩))), (6, some (.pointer (some ⟨b2, 0, none⟩))), (7, some (.pointer (some ⟨b3, 0, none⟩))), (8, some (.pointer (some ⟨b4, 0, none⟩)))])
  (fun y => (b4, outO 20 y.1.vk y.1.vn) :: (b3, .cells zx.toArray 38 (0, 0)) :: (b2, .cells zp.toArray 68 (0, 0)) :: (b1, .cells #[l, .int .i64 y.1.p.p, .int .i64 y.1.p.deep, .int .i64 y.1.p.e, .int .i64 y.1.p.bad] 68 (0, 0)) :: (y.1.Hk ++ (y.1.Hn ++ y.1.G))) (fun y => y.2) (⟨adv p, adv p, [], [], [], .slice none 0 0, .slice none 0 0, [], [], []⟩, N)
  ⟨it_nil hg.adv, ⟨trivial, trivial⟩, ⟨trivial, trivial⟩, ⟨trivial, trivial⟩, fun _ => ⟨rfl, rfl, rfl⟩, fun _ => ⟨by show (0 : Int) ≤ p.p + 1; omega, by show p.p + 1 ≤ ws.length; omega⟩, Nat.le_refl _, hR⟩ (by simp only [*, ↓ZD, ZW, RO, simprocAttr]) (by simp only [*, adv, ↓ZD, ZW, RO, simprocAttr]) ?_
 clear hR hi hw1 hp hg
 rintro ⟨⟨p, s, ks, ns, css, vk, vn, Hk, Hn, G0⟩, m⟩ ⟨⟨hA, hg, hk, h12, hn, hnl, hr, ok, on, og, kn, kg, ng, hw, hle⟩, ok2, on2, og2, hn0, hc, hm, hR⟩
 dsimp only at hA hg hk h12 hn hnl hr ok on og kn kg ng hw hle ok2 on2 og2 hn0 hc hm hR ⊢
 obtain ⟨base, capk, hvk, hck⟩ := hk.len_le
 subst hvk
 have hvn : oneCell vn = true := by obtain ⟨_, _, h, -⟩ := hn.len_le; rw [h]; rfl
 have a1 := ok.nb
 have a2 := on.nb
 have a3 := og.nb
 have a4 := djs kn
 have a5 := djs kg
 have a6 := djs ng
 have nk := hk.noF
 have hwk := OwnS.sub hk
 clear ok on og kn kg ng
 by_cases he0 : s.e = 0
 ·obtain rfl := hA.ok he0
  have hd : (p.e == 0) = true := by simpa using he0
  obtain ⟨m, rfl⟩ : ∃ m', m = m' + 1 := by
   cases m with
   | zero => exact absurd he0 (G_zero hR).1
   | succ m => exact ⟨m, rfl⟩
  rw [G_succ, if_pos he0] at hR
  simp only [stepG, itsG] at hR
  obtain ⟨⟨y1, s1⟩, hR3, hR4⟩ := bind_some hR
  simp only at hR4
  have hfw := (head_fwd (ws := ws) (op := 20) (ns := ns) (s := p)).trans (G_goes ws m _ _ _ hR3)
  have h20 : s1.e = 0 → p.p ≤ s1.p := fun he => by have := (hfw he).2.1; simp only at this; omega
  obtain ⟨hc0, hc9⟩ := hc he0
  have hgq : Good (headS ws 20 ns p).2 := hg.fwd (head_fwd (ws := ws) (op := 20) (ns := ns) (s := p))
  clear hR hc
  replace he0 : id (p.e = 0) := he0
  have nn := hn.noF
  clear hn0 hfw
  simp only [*, List.append_assoc, List.append_nil, ↓ZD, ZW, RO, simprocAttr]
  refine CallE.pure (rword_pure F' hW p) ?_
  by_cases hk3 : wk ws p = 3
  ·have hq3 : ((((wdAt ws p.p).1.1 : Nat) : Int) == 3) = true := beq_iff_eq.2 hk3
   rw [show headS ws 20 ns p = (ns ++ [(takeS ws p 3).1], mustS ws (takeS ws p 3).2 [58]) by unfold headS; rw [if_pos rfl, if_pos hk3]] at hR3 hR4 hgq
   simp only at hR3 hR4 hgq
   clear hk3
   simp only [*, wf0, wsz, List.append_assoc, List.append_nil, ↓ZD, ZW, RO, simprocAttr]
   refine CallE.pure (rtake_pure _ hW p 3 (by decide)) ?_
   have hnm : (takeS ws p 3).1.length ≤ 65536 := take_name hws
   generalize takeS ws p 3 = t at *
   clear hq3
   simp only [*, List.append_assoc, List.append_nil, ↓ZD, ZW, RO, simprocAttr]
   refine NewB.n ?_
   intro b5 hz5 hF5
   simp only [Nb_cons, Nb_app, Nb_nil] at hz5
   simp only [*, List.append_assoc, List.append_nil, ↓ZD, ZW, RO, simprocAttr]
   refine EfL.more (m := 1) (nw := [Value.string (bs t.1)]) hn (by simp only [*, ↓ZD, ZW, RO, simprocAttr]) (by simp only [*, ↓ZD, ZW, RO, simprocAttr]) rfl (fun v hv => by rw [List.mem_singleton.1 hv]; rfl) (by simp) (by omega) ?_
   intro b6 cap2 sp2 hs2 hcap2 hcm2 hF6 hz6
   simp only [Nb_cons, Nb_app, Nb_nil] at hz6
   clear a2 a4 a6 nn
   simp only [*, List.append_assoc, List.append_nil, ↓ZD, ZW, RO, simprocAttr]
   refine CallE.pure (rmust_pure _ hW t.2 [58]) ?_
   simp only [*, List.append_assoc, List.append_nil, ↓ZD, ZW, RO, simprocAttr]
   refine NewB.n ?_
   intro b7 hz7 hF7
   simp only [Nb_cons, Nb_app, Nb_nil] at hz7
   simp only [*, List.append_assoc, List.append_nil, ↓ZD, ZW, RO, simprocAttr]
   refine CallE.rq (p := (mustS ws t.2 [58])) (s := (mustS ws t.2 [58])) ((h1 m (by omega)).mono hFF) Agr.rfl' hgq hR3 (by simp only [*, List.append_assoc, List.append_nil, ↓ZD, ZW, RO, simprocAttr]) ?_
   rintro p1 cs1 G1 hA1 hr1 ⟨c12, hd1, hx1, hw1⟩
   simp only [Dj_cons, Dj_app, Dj_nil] at hd1
   have cok := c12.2.1
   simp only [*, List.append_assoc, List.append_nil, ↓ZD, ZW, RO, simprocAttr]
   refine NewB.n ?_
   intro b8 hz8 hF8
   simp only [Nb_cons, Nb_app, Nb_nil] at hz8
   simp only [*, List.append_assoc, List.append_nil, ↓ZD, ZW, RO, simprocAttr]
   have d1 : Dj G1 Hk := Dj.symm (by simp only [*, ↓ZD, ZW, RO, simprocAttr])
   refine EfL.more (m := 1) (nw := cs1) hk (by simp only [*, ↓ZD, ZW, RO, simprocAttr]) (by simp only [*, ↓ZD, ZW, RO, simprocAttr]) (by rw [c12.1]) (List.all_eq_true.1 (Bool.and_eq_true_iff.1 cok).1) (by intro h; rw [h] at c12; cases c12.1) (by omega) ?_
   intro b9 cap sp hs hcap hcm hF9 hz9
   simp only [Nb_cons, Nb_app, Nb_nil] at hz9
   have hy := ItOk.add (F := F') (b := b1) (bo := b4) (ns := ns ++ [t.1]) (vn := .slice (some ⟨b6, 0, none⟩) (ns.length + 1) cap2) hA1 (hgq.go hR3) h12 c12.1 (OwnS.mk sp2 hF6 (by simp) (by simp) (by simp) (by simpa using hs2) (by simpa using hcap2) hcm2) (fun c h => by rcases List.mem_append.1 h with h | h; exact hnl c h; rw [List.mem_singleton.1 h]; exact hnm) (fun he => ⟨⟨(hr he0).1, fun i c t hc ht => ((hr he0).2 i c t hc ht).mono hx1⟩, hr1 he⟩) hF9 hs hcap hcm (by simp only [*, ↓ZD, ZW, RO, simprocAttr]) (by simp only [*, ↓ZD, ZW, RO, simprocAttr]) (fun e he => by rw [List.mem_singleton.1 he]; constructor <;> simp [*]) (Nb.all (b := b1) (H := G1) (by simp only [*, ↓ZD, ZW, RO, simprocAttr])) (Nb.all (b := b4) (H := G1) (by simp only [*, ↓ZD, ZW, RO, simprocAttr])) (Nb.all (b := b9) (H := [(b6, .cells ((ns.map fun s => Value.string (bs s)) ++ [Value.string (bs t.1)] ++ sp2).toArray 9 (0, 0))]) (by simp only [*, ↓ZD, ZW, RO, simprocAttr])) (Nb.all (b := b9) (H := G1) (by simp only [*, ↓ZD, ZW, RO, simprocAttr])) (fun e he e' he' => (Dj.iff.1 (show Dj [(b6, .cells ((ns.map fun s => Value.string (bs s)) ++ [Value.string (bs t.1)] ++ sp2).toArray 9 (0, 0))] G1 by simp only [*, ↓ZD, ZW, RO, simprocAttr]) e he e' he').symm) hw1 (by rw [List.length_append]; show ns.length + 1 ≤ css.length + 1; omega)
   simp only [show endOf 20 = [125] from rfl] at hR4
   simp only [*, List.append_assoc, List.append_nil, ↓ZD, ZW, RO, simprocAttr]
   refine CallE.pure (rIs_pure _ hW p1 [125]) ?_
   rw [show isS ws p1 [125] = isS ws s1 [125] from hA1.is]
   rcases tf (isS ws s1 [125]) with hi | hi
   ·rw [hi, if_pos rfl] at hR4
    simp only [Option.some.injEq, Prod.mk.injEq] at hR4
    obtain ⟨rfl, rfl⟩ := hR4
    have he1 := isS_ok hi
    obtain rfl := hA1.ok he1
    have hrg := isS_range hi
    have hw2 : IntKind.i64.wrap (p1.p + 1) = p1.p + 1 := by rw [wrap_i64]; omega
    replace he1 : id (p1.e = 0) := he1
    simp only [*, List.append_assoc, List.append_nil, ↓ZD, ZW, RO, simprocAttr]
    refine TreeL.open ?_
    simp only [*, ↓ZD, ZW, RO, simprocAttr]
    repeat' (first | exact RFin.m (p' := adv p1) _ Agr.rfl' ⟨rfl, rfl, rfl, rfl⟩ (fun he => it_rep hy (i64_lit rfl) he1 (by simp only [List.length_append, List.length_cons, List.length_nil]; omega)) (it_wkx hy) (by simp +contextual) | apply And.intro)
   rw [hi, if_neg (by decide)] at hR4
   simp only [*, List.append_assoc, List.append_nil, ↓ZD, ZW, RO, simprocAttr]
   refine CallE.pure (rmust_pure _ hW p1 [44]) ?_
   simp only [*, List.append_assoc, List.append_nil, ↓ZD, ZW, RO, simprocAttr]
   refine invK.on ⟨{ (_ : ItS) with p := mustS ws p1 [44], s := mustS ws s1 [44] }, m⟩ ⟨hy.st hA1.must (hgq.go hR3).must fun he => must_e he, ⟨by simp only [*, ↓ZD, ZW, RO, simprocAttr], by simp only [*, ↓ZD, ZW, RO, simprocAttr]⟩, ⟨by simp only [*, ↓ZD, ZW, RO, simprocAttr], by simp only [*, ↓ZD, ZW, RO, simprocAttr]⟩, ⟨by simp only [*, ↓ZD, ZW, RO, simprocAttr], by simp only [*, ↓ZD, ZW, RO, simprocAttr]⟩, (fun h => absurd rfl h), fun he => ?_, by show m ≤ N; omega, hR4⟩ (by show m < m + 1; omega) (by simp only [*, ↓ZD, ZW, RO, simprocAttr]) (by simp only [*, List.append_assoc, List.append_nil, ↓ZD, ZW, RO, simprocAttr])
   have hm1 := must_in he
   have hs1 := must_e he
   have hf := h20 hs1
   have h0 := hc0
   show ((css ++ [cs1]).length : Int) ≤ (mustS ws s1 [44]).p ∧ (mustS ws s1 [44]).p ≤ ws.length
   rw [List.length_append, List.length_cons, List.length_nil, hm1.2.2]
   omega
  ·have hq3 : ((((wdAt ws p.p).1.1 : Nat) : Int) == 3) = false := beq_eq_false_iff_ne.2 hk3
   rw [show headS ws 20 ns p = (ns ++ [(takeS ws p 1).1], mustS ws (takeS ws p 1).2 [58]) by unfold headS; rw [if_pos rfl, if_neg hk3]] at hR3 hR4 hgq
   simp only at hR3 hR4 hgq
   clear hk3
   simp only [*, wf0, wsz, List.append_assoc, List.append_nil, ↓ZD, ZW, RO, simprocAttr]
   refine CallE.pure (rtake_pure _ hW p 1 (by decide)) ?_
   have hnm : (takeS ws p 1).1.length ≤ 65536 := take_name hws
   generalize takeS ws p 1 = t at *
   clear hq3
   simp only [*, List.append_assoc, List.append_nil, ↓ZD, ZW, RO, simprocAttr]
   refine NewB.n ?_
   intro b5 hz5 hF5
   simp only [Nb_cons, Nb_app, Nb_nil] at hz5
   simp only [*, List.append_assoc, List.append_nil, ↓ZD, ZW, RO, simprocAttr]
   refine EfL.more (m := 1) (nw := [Value.string (bs t.1)]) hn (by simp only [*, ↓ZD, ZW, RO, simprocAttr]) (by simp only [*, ↓ZD, ZW, RO, simprocAttr]) rfl (fun v hv => by rw [List.mem_singleton.1 hv]; rfl) (by simp) (by omega) ?_
   intro b6 cap2 sp2 hs2 hcap2 hcm2 hF6 hz6
   simp only [Nb_cons, Nb_app, Nb_nil] at hz6
   clear a2 a4 a6 nn
   simp only [*, List.append_assoc, List.append_nil, ↓ZD, ZW, RO, simprocAttr]
   refine CallE.pure (rmust_pure _ hW t.2 [58]) ?_
   simp only [*, List.append_assoc, List.append_nil, ↓ZD, ZW, RO, simprocAttr]
   refine NewB.n ?_
   intro b7 hz7 hF7
   simp only [Nb_cons, Nb_app, Nb_nil] at hz7
   simp only [*, List.append_assoc, List.append_nil, ↓ZD, ZW, RO, simprocAttr]
   refine CallE.rq (p := (mustS ws t.2 [58])) (s := (mustS ws t.2 [58])) ((h1 m (by omega)).mono hFF) Agr.rfl' hgq hR3 (by simp only [*, List.append_assoc, List.append_nil, ↓ZD, ZW, RO, simprocAttr]) ?_
   rintro p1 cs1 G1 hA1 hr1 ⟨c12, hd1, hx1, hw1⟩
   simp only [Dj_cons, Dj_app, Dj_nil] at hd1
   have cok := c12.2.1
   simp only [*, List.append_assoc, List.append_nil, ↓ZD, ZW, RO, simprocAttr]
   refine NewB.n ?_
   intro b8 hz8 hF8
   simp only [Nb_cons, Nb_app, Nb_nil] at hz8
   simp only [*, List.append_assoc, List.append_nil, ↓ZD, ZW, RO, simprocAttr]
   have d1 : Dj G1 Hk := Dj.symm (by simp only [*, ↓ZD, ZW, RO, simprocAttr])
   refine EfL.more (m := 1) (nw := cs1) hk (by simp only [*, ↓ZD, ZW, RO, simprocAttr]) (by simp only [*, ↓ZD, ZW, RO, simprocAttr]) (by rw [c12.1]) (List.all_eq_true.1 (Bool.and_eq_true_iff.1 cok).1) (by intro h; rw [h] at c12; cases c12.1) (by omega) ?_
   intro b9 cap sp hs hcap hcm hF9 hz9
   simp only [Nb_cons, Nb_app, Nb_nil] at hz9
   have hy := ItOk.add (F := F') (b := b1) (bo := b4) (ns := ns ++ [t.1]) (vn := .slice (some ⟨b6, 0, none⟩) (ns.length + 1) cap2) hA1 (hgq.go hR3) h12 c12.1 (OwnS.mk sp2 hF6 (by simp) (by simp) (by simp) (by simpa using hs2) (by simpa using hcap2) hcm2) (fun c h => by rcases List.mem_append.1 h with h | h; exact hnl c h; rw [List.mem_singleton.1 h]; exact hnm) (fun he => ⟨⟨(hr he0).1, fun i c t hc ht => ((hr he0).2 i c t hc ht).mono hx1⟩, hr1 he⟩) hF9 hs hcap hcm (by simp only [*, ↓ZD, ZW, RO, simprocAttr]) (by simp only [*, ↓ZD, ZW, RO, simprocAttr]) (fun e he => by rw [List.mem_singleton.1 he]; constructor <;> simp [*]) (Nb.all (b := b1) (H := G1) (by simp only [*, ↓ZD, ZW, RO, simprocAttr])) (Nb.all (b := b4) (H := G1) (by simp only [*, ↓ZD, ZW, RO, simprocAttr])) (Nb.all (b := b9) (H := [(b6, .cells ((ns.map fun s => Value.string (bs s)) ++ [Value.string (bs t.1)] ++ sp2).toArray 9 (0, 0))]) (by simp only [*, ↓ZD, ZW, RO, simprocAttr])) (Nb.all (b := b9) (H := G1) (by simp only [*, ↓ZD, ZW, RO, simprocAttr])) (fun e he e' he' => (Dj.iff.1 (show Dj [(b6, .cells ((ns.map fun s => Value.string (bs s)) ++ [Value.string (bs t.1)] ++ sp2).toArray 9 (0, 0))] G1 by simp only [*, ↓ZD, ZW, RO, simprocAttr]) e he e' he').symm) hw1 (by rw [List.length_append]; show ns.length + 1 ≤ css.length + 1; omega)
   simp only [show endOf 20 = [125] from rfl] at hR4
   simp only [*, List.append_assoc, List.append_nil, ↓ZD, ZW, RO, simprocAttr]
   refine CallE.pure (rIs_pure _ hW p1 [125]) ?_
   rw [show isS ws p1 [125] = isS ws s1 [125] from hA1.is]
   rcases tf (isS ws s1 [125]) with hi | hi
   ·rw [hi, if_pos rfl] at hR4
    simp only [Option.some.injEq, Prod.mk.injEq] at hR4
    obtain ⟨rfl, rfl⟩ := hR4
    have he1 := isS_ok hi
    obtain rfl := hA1.ok he1
    have hrg := isS_range hi
    have hw2 : IntKind.i64.wrap (p1.p + 1) = p1.p + 1 := by rw [wrap_i64]; omega
    replace he1 : id (p1.e = 0) := he1
    simp only [*, List.append_assoc, List.append_nil, ↓ZD, ZW, RO, simprocAttr]
    refine TreeL.open ?_
    simp only [*, ↓ZD, ZW, RO, simprocAttr]
    repeat' (first | exact RFin.m (p' := adv p1) _ Agr.rfl' ⟨rfl, rfl, rfl, rfl⟩ (fun he => it_rep hy (i64_lit rfl) he1 (by simp only [List.length_append, List.length_cons, List.length_nil]; omega)) (it_wkx hy) (by simp +contextual) | apply And.intro)
   rw [hi, if_neg (by decide)] at hR4
   simp only [*, List.append_assoc, List.append_nil, ↓ZD, ZW, RO, simprocAttr]
   refine CallE.pure (rmust_pure _ hW p1 [44]) ?_
   simp only [*, List.append_assoc, List.append_nil, ↓ZD, ZW, RO, simprocAttr]
   refine invK.on ⟨{ (_ : ItS) with p := mustS ws p1 [44], s := mustS ws s1 [44] }, m⟩ ⟨hy.st hA1.must (hgq.go hR3).must fun he => must_e he, ⟨by simp only [*, ↓ZD, ZW, RO, simprocAttr], by simp only [*, ↓ZD, ZW, RO, simprocAttr]⟩, ⟨by simp only [*, ↓ZD, ZW, RO, simprocAttr], by simp only [*, ↓ZD, ZW, RO, simprocAttr]⟩, ⟨by simp only [*, ↓ZD, ZW, RO, simprocAttr], by simp only [*, ↓ZD, ZW, RO, simprocAttr]⟩, (fun h => absurd rfl h), fun he => ?_, by show m ≤ N; omega, hR4⟩ (by show m < m + 1; omega) (by simp only [*, ↓ZD, ZW, RO, simprocAttr]) (by simp only [*, List.append_assoc, List.append_nil, ↓ZD, ZW, RO, simprocAttr])
   have hm1 := must_in he
   have hs1 := must_e he
   have hf := h20 hs1
   have h0 := hc0
   show ((css ++ [cs1]).length : Int) ≤ (mustS ws s1 [44]).p ∧ (mustS ws s1 [44]).p ≤ ws.length
   rw [List.length_append, List.length_cons, List.length_nil, hm1.2.2]
   omega
 ·have hd : (p.e == 0) = false := by rw [hA.e]; simpa using he0
  obtain ⟨rfl, rfl⟩ := G_err he0 _ _ hR
  simp only [*, ↓ZD, ZW, RO, simprocAttr]
  refine TreeL.open ?_
  simp only [*, ↓ZD, ZW, RO, simprocAttr]
  repeat' (first | exact ⟨p, _, [], hA, rfl, ⟨rfl, by simp only [*, ↓ZD, ZW, RO, simprocAttr], rfl, rfl⟩, fun he => absurd he he0, Wk.nil, all_nil⟩ | apply And.intro)
end Go.Proofs.YtkbhinfpndnnfaaGreatDoor
namespace Go.Proofs.YtkbhinfpndnnfaaGreatDoor
open Go Go.Eng
set_option maxHeartbeats 1000000
set_option linter.unusedSimpArgs false
set_option linter.unusedVariables false
set_option maxRecDepth 20000
theorem rnamed_does (F' : Base) {ws : Ws} (hws : WsOk ws) {l : Value} (hW : HasW F' ws l) (p : St) (he0 : p.e = 0) (hp : 0 ≤ p.p ∧ p.p < ws.length) :
  Does Tryz.prog F' 101 #[PV l p, .string (bs (wdAt ws p.p).1.2.1)] [] (RPost F' l (nameG ws p).1 (nameG ws p).2) := by
 have hol := hW.one'
 have hlen := hW.len
 have hw1 : IntKind.i64.wrap (p.p + 1) = p.p + 1 := by rw [wrap_i64]; omega
 replace he0 : id (p.e = 0) := he0
 refine Does.rfin (does_of_svc (args := [PV l p, .string (bs (wdAt ws p.p).1.2.1)]) mixed Tryz.func101 low101 (Nat.le_of_ble_eq_true rfl) fun w0 hw0 => ?_)
 simp only [*, fu101, ↓ZD, ZW, RO, simprocAttr]
 refine NewB.n ?_
 rintro b1 _ _
 simp only [*, ↓ZD, ZW, RO, simprocAttr]
 refine NewB.n ?_
 rintro b2 ⟨_, _, _⟩ _
 simp only [*, ↓ZD, ZW, RO, simprocAttr]
 refine NewB.n ?_
 rintro b3 ⟨_, _, _, _, _⟩ _
 simp only [*, ↓ZD, ZW, RO, simprocAttr]
 unfold nameG wtx
 rcases tf ((wdAt ws p.p).1.2.1 == [116, 114, 117, 101] || (wdAt ws p.p).1.2.1 == [102, 97, 108, 115, 101]) with hd1 | hd1
 ·rw [if_pos (by rw [Bool.or_eq_true, beq_iff_eq, beq_iff_eq] at hd1; exact hd1)]
  simp only [*, ↓ZD, ZW, RO, simprocAttr]
  repeat' (first | exact RFin.m (p' := adv p) [] Agr.rfl' ⟨rfl, rfl, rfl, rfl⟩ (fun _ => repP_leaf (op := 1) (v := ⟨1, (wdAt ws p.p).1.2.1 == [116, 114, 117, 101], 0, [], [], []⟩) (nm := []) (i64_lit rfl) (i64_lit rfl) (i64_lit rfl)) Wk.nil all_nil | apply And.intro)
 rw [if_neg (by rintro (h | h) <;> simp [h] at hd1)]
 simp only [*, ↓ZD, ZW, RO, simprocAttr]
 refine CallE.pure (rbehind_pure F' hW p hp) ?_
 simp only [*, wdV, ↓ZD, ZW, RO, simprocAttr]
 refine NewB.n ?_
 rintro b4 ⟨_, _, _, _, _, _, _⟩ _
 simp only [*, wdV, ↓ZD, ZW, RO, simprocAttr]
 rcases tf (((((wdAt ws (p.p + 1)).1.1 : Nat) : Int) == 5) && (wdAt ws (p.p + 1)).1.2.1 == [58, 58]) with hd2 | hd2
 ·rw [if_pos (by rw [Bool.and_eq_true, beq_iff_eq, beq_iff_eq] at hd2; exact hd2)]
  simp only [*, ↓ZD, ZW, RO, simprocAttr]
  refine CallE.pure (rUid_pure F' hws hW p (rpath_pure F' hws hW p)) ?_
  simp only [*, ↓ZD, ZW, RO, simprocAttr]
  refine NewB.n ?_
  rintro b5 ⟨_, _, _, _, _, _, _, _, _⟩ _
  simp only [*, ↓ZD, ZW, RO, simprocAttr]
  refine NewB.n ?_
  rintro b6 ⟨_, _, _, _, _, _, _, _, _, _, _⟩ _
  simp only [*, ↓ZD, ZW, RO, simprocAttr]
  try refine TreeL.open ?_
  try simp only [*, ↓ZD, ZW, RO, simprocAttr]
  repeat' (first | exact RFin.m (p' := (uidS ws p).2) [] Agr.rfl' ⟨rfl, rfl, rfl, rfl⟩ (fun _ => repP_leaf (op := 1) (v := ⟨4, false, 0, [], (uidS ws p).1.1, (uidS ws p).1.2⟩) (nm := []) (i64_lit rfl) (i64_lit rfl) (i64_lit rfl)) Wk.nil all_nil | apply And.intro)
 rw [if_neg (by rintro ⟨h, h2⟩; simp [h, h2] at hd2)]
 have key : decide ((wdAt ws p.p).1.2.1 ∈ varL) = ((wdAt ws p.p).1.2.1 == [112, 114, 105, 110, 99, 105, 112, 97, 108] || (wdAt ws p.p).1.2.1 == [97, 99, 116, 105, 111, 110] || (wdAt ws p.p).1.2.1 == [114, 101, 115, 111, 117, 114, 99, 101] || (wdAt ws p.p).1.2.1 == [99, 111, 110, 116, 101, 120, 116]) := by rw [Bool.eq_iff_iff]; simp [varL, Bool.or_eq_true, or_assoc]
 rcases tf ((wdAt ws p.p).1.2.1 == [112, 114, 105, 110, 99, 105, 112, 97, 108] || (wdAt ws p.p).1.2.1 == [97, 99, 116, 105, 111, 110] || (wdAt ws p.p).1.2.1 == [114, 101, 115, 111, 117, 114, 99, 101] || (wdAt ws p.p).1.2.1 == [99, 111, 110, 116, 101, 120, 116]) with hd3 | hd3
 ·rw [if_pos (of_decide_eq_true (key.trans hd3))]
  clear key
  simp only [*, ↓ZD, ZW, RO, simprocAttr]
  repeat' (first | exact RFin.m (p' := adv p) [] Agr.rfl' ⟨rfl, rfl, rfl, rfl⟩ (fun _ => repP_leaf (op := 2) (v := lv0) (nm := (wdAt ws p.p).1.2.1) (i64_lit rfl) (i64_lit rfl) (i64_lit rfl)) Wk.nil all_nil | apply And.intro)
 rw [if_neg (of_decide_eq_false (key.trans hd3))]
 clear key
 simp only [*, ↓ZD, ZW, RO, simprocAttr]
 refine CallE.pure (rfail_pure F' hW p 10) ?_
 simp only [*, ↓ZD, ZW, RO, simprocAttr]
 repeat' (first | exact RFin.m (p' := (failS ws p 10)) [] Agr.rfl' ⟨rfl, rfl, rfl, rfl⟩ (fun he => absurd he (failS_e (by decide))) Wk.nil all_nil | apply And.intro)
set_option maxHeartbeats 8000000 in
theorem rprimary_prs (F : Base) {ws : Ws} (hws : WsOk ws) {l : Value} (hW : HasW F ws l) (n : Nat) (h1 : ∀ m ≤ n, RPrs F l 24 [] (G ws m .expr)) : RPrs F l 99 [] (fun s => if s.e = 0 then primG ws (G ws n) s else some (nilX, s)) := by
 intro F' hFF p s x s' hA hg hR
 have hW9 := hW
 have hW := hW.mono hFF
 have hol := hW.one'
 refine Does.rfin (does_of_svc (args := [PV l p]) mixed Tryz.func99 low99 (Nat.le_of_ble_eq_true rfl) fun w0 hw0 => ?_)
 simp only [*, fu99, ↓ZD, ZW, RO, simprocAttr]
 refine NewB.n ?_
 rintro b1 _ _
 simp only [*, ↓ZD, ZW, RO, simprocAttr]
 refine NewB.n ?_
 rintro b2 ⟨_, _, _⟩ _
 simp only [*, ↓ZD, ZW, RO, simprocAttr]
 refine NewB.n ?_
 rintro b3 ⟨_, _, _, _, _⟩ _
 simp only [*, ↓ZD, ZW, RO, simprocAttr]
 refine CallE.pure (rword_pure F' hW p) ?_
 have hR : (if s.e = 0 then primG ws (G ws n) s else some (nilX, s)) = some (x, s') := hR
 by_cases he0 : s.e = 0
 ·rw [if_pos he0] at hR
  obtain rfl := hA.ok he0
  have hd : (p.e != 0) = false := by simpa using he0
  have hlen := hW.len
  unfold primG wk at hR
  replace he0 : id (p.e = 0) := he0
  have hrg := in_range (ws := ws) (p := p.p)
  have hw1 : (((wdAt ws p.p).1.1 : Nat) : Int) ≠ 0 → IntKind.i64.wrap (p.p + 1) = p.p + 1 := fun h => by have := hrg (by omega); rw [wrap_i64]; omega
  rcases tf ((((wdAt ws p.p).1.1 : Nat) : Int) == 1) with hK1 | hK1
  ·have hx : (((wdAt ws p.p).1.1 : Nat) : Int) = 1 := beq_iff_eq.1 hK1
   have hw1 := hw1 (by omega)
   replace hrg := hrg (by omega)
   rw [if_neg (by omega), if_neg (by omega), if_neg (by omega), if_pos (by omega)] at hR
   simp only [Option.some.injEq] at hR
   clear hw1
   simp only [*, wdV, ↓ZD, ZW, RO, simprocAttr]
   refine NewB.n ?_
   rintro b4 ⟨_, _, _, _, _, _, _⟩ _
   simp only [*, wdV, ↓ZD, ZW, RO, simprocAttr]
   refine CallE.rqd (x := (nameG ws p).1) (s' := (nameG ws p).2) (rnamed_does F' hws hW p he0 hrg) (by simp only [*, ↓ZD, ZW, RO, simprocAttr]) ?_
   rintro p1 cs1 G1 hA1 hr1 ⟨_, ⟨_, _, _, _, _⟩, hx1, _⟩
   rw [hR] at hA1 hr1
   simp only at hA1 hr1
   simp only [*, wdV, ↓ZD, ZW, RO, simprocAttr]
   repeat' (first | exact RFin.g hA1 ‹_› hr1 ‹_› | apply And.intro)
  have hx1 : (((wdAt ws p.p).1.1 : Nat) : Int) ≠ 1 := beq_eq_false_iff_ne.1 hK1
  rcases tf ((((wdAt ws p.p).1.1 : Nat) : Int) == 2) with hK2 | hK2
  ·have hx : (((wdAt ws p.p).1.1 : Nat) : Int) = 2 := beq_iff_eq.1 hK2
   have hw1 := hw1 (by omega)
   replace hrg := hrg (by omega)
   rw [if_pos (by omega)] at hR
   simp only [Option.some.injEq, Prod.mk.injEq] at hR
   obtain ⟨rfl, rfl⟩ := hR
   simp only [*, wdV, ↓ZD, ZW, RO, simprocAttr]
   refine NewB.n ?_
   rintro b4 ⟨_, _, _, _, _, _, _⟩ _
   simp only [*, wdV, ↓ZD, ZW, RO, simprocAttr]
   refine TreeL.open ?_
   simp only [*, wdV, ↓ZD, ZW, RO, simprocAttr]
   repeat' (first | exact RFin.m (p' := adv p) [] Agr.rfl' ⟨rfl, rfl, rfl, rfl⟩ (fun _ => repP_leaf (op := 1) (v := ⟨2, false, (wdAt ws p.p).1.2.2, [], [], []⟩) (nm := []) (i64_lit rfl) (i64_lit rfl) (wdAt_ok hws p.p).2.1) Wk.nil all_nil | apply And.intro)
  have hx2 : (((wdAt ws p.p).1.1 : Nat) : Int) ≠ 2 := beq_eq_false_iff_ne.1 hK2
  rcases tf ((((wdAt ws p.p).1.1 : Nat) : Int) == 3) with hK3 | hK3
  ·have hx : (((wdAt ws p.p).1.1 : Nat) : Int) = 3 := beq_iff_eq.1 hK3
   have hw1 := hw1 (by omega)
   replace hrg := hrg (by omega)
   rw [if_neg (by omega), if_pos (by omega)] at hR
   simp only [Option.some.injEq, Prod.mk.injEq] at hR
   obtain ⟨rfl, rfl⟩ := hR
   simp only [*, wdV, ↓ZD, ZW, RO, simprocAttr]
   refine NewB.n ?_
   rintro b4 ⟨_, _, _, _, _, _, _⟩ _
   simp only [*, wdV, ↓ZD, ZW, RO, simprocAttr]
   refine TreeL.open ?_
   simp only [*, wdV, ↓ZD, ZW, RO, simprocAttr]
   repeat' (first | exact RFin.m (p' := adv p) [] Agr.rfl' ⟨rfl, rfl, rfl, rfl⟩ (fun _ => repP_leaf (op := 1) (v := ⟨3, false, 0, (wdAt ws p.p).1.2.1, [], []⟩) (nm := []) (i64_lit rfl) (i64_lit rfl) (i64_lit rfl)) Wk.nil all_nil | apply And.intro)
  have hx3 : (((wdAt ws p.p).1.1 : Nat) : Int) ≠ 3 := beq_eq_false_iff_ne.1 hK3
  rcases tf ((((wdAt ws p.p).1.1 : Nat) : Int) == 4) with hK4 | hK4
  ·have hx : (((wdAt ws p.p).1.1 : Nat) : Int) = 4 := beq_iff_eq.1 hK4
   have hw1 := hw1 (by omega)
   replace hrg := hrg (by omega)
   rw [if_neg (by omega), if_neg (by omega), if_pos (by omega)] at hR
   have key : decide (wtx ws p ∈ slotL) = !(!(wdAt ws p.p).1.2.1 == [112, 114, 105, 110, 99, 105, 112, 97, 108] && !(wdAt ws p.p).1.2.1 == [114, 101, 115, 111, 117, 114, 99, 101]) := by rw [Bool.eq_iff_iff]; simp [slotL, wtx]
   rcases tf (!(wdAt ws p.p).1.2.1 == [112, 114, 105, 110, 99, 105, 112, 97, 108] && !(wdAt ws p.p).1.2.1 == [114, 101, 115, 111, 117, 114, 99, 101]) with hd3 | hd3
   ·rw [if_neg (of_decide_eq_false (key.trans (by rw [hd3]; rfl)))] at hR
    simp only [Option.some.injEq, Prod.mk.injEq] at hR
    obtain ⟨rfl, rfl⟩ := hR
    clear key
    simp only [*, wdV, ↓ZD, ZW, RO, simprocAttr]
    refine NewB.n ?_
    rintro b4 ⟨_, _, _, _, _, _, _⟩ _
    simp only [*, wdV, ↓ZD, ZW, RO, simprocAttr]
    refine CallE.pure (rfail_pure F' hW p 10) ?_
    simp only [*, ↓ZD, ZW, RO, simprocAttr]
    repeat' (first | exact RFin.m (p' := (failS ws p 10)) [] Agr.rfl' ⟨rfl, rfl, rfl, rfl⟩ (fun he => absurd he (failS_e (by decide))) Wk.nil all_nil | apply And.intro)
   rw [if_pos (of_decide_eq_true (key.trans (by rw [hd3]; rfl)))] at hR
   simp only [Option.some.injEq, Prod.mk.injEq] at hR
   obtain ⟨rfl, rfl⟩ := hR
   clear key
   simp only [*, wdV, ↓ZD, ZW, RO, simprocAttr]
   refine NewB.n ?_
   rintro b4 ⟨_, _, _, _, _, _, _⟩ _
   simp only [*, wdV, ↓ZD, ZW, RO, simprocAttr]
   refine TreeL.open ?_
   simp only [*, wdV, ↓ZD, ZW, RO, simprocAttr]
   repeat' (first | exact RFin.m (p' := adv p) [] Agr.rfl' ⟨rfl, rfl, rfl, rfl⟩ (fun _ => repP_leaf (op := 3) (v := lv0) (nm := (wdAt ws p.p).1.2.1) (i64_lit rfl) (i64_lit rfl) (i64_lit rfl)) Wk.nil all_nil | apply And.intro)
  have hx4 : (((wdAt ws p.p).1.1 : Nat) : Int) ≠ 4 := beq_eq_false_iff_ne.1 hK4
  clear hw1 hrg
  rw [if_neg hx2, if_neg hx3, if_neg hx4, if_neg hx1] at hR
  simp only [*, wdV, ↓ZD, ZW, RO, simprocAttr]
  refine NewB.n ?_
  rintro b4 ⟨_, _, _, _, _, _, _⟩ _
  simp only [*, wdV, ↓ZD, ZW, RO, simprocAttr]
  refine CallE.pure (rIs_pure _ hW p [40]) ?_
  rcases tf (isS ws p [40]) with hi | hi
  ·rw [hi, if_pos rfl] at hR
   obtain ⟨⟨x1, s1⟩, hR1, hR⟩ := map_some' hR
   simp only [Prod.mk.injEq] at hR
   obtain ⟨rfl, rfl⟩ := hR
   have hrg := isS_range hi
   have hw1 : IntKind.i64.wrap (p.p + 1) = p.p + 1 := by rw [wrap_i64]; omega
   simp only [*, ↓ZD, ZW, RO, simprocAttr]
   refine NewB.n ?_
   rintro b5 ⟨_, _, _, _, _, _, _, _, _⟩ _
   simp only [*, ↓ZD, ZW, RO, simprocAttr]
   refine CallE.rq (p := adv p) (s := adv p) ((h1 n (Nat.le_refl _)).mono hFF) Agr.rfl' hg.adv hR1 (by simp only [*, ↓ZD, ZW, RO, simprocAttr]) ?_
   rintro p1 cs1 G1 hA1 hr1 ⟨_, ⟨_, _, _, _, _, _⟩, hx1, _⟩
   simp only [*, wdV, ↓ZD, ZW, RO, simprocAttr]
   refine TreeL.open ?_
   simp only [*, wdV, ↓ZD, ZW, RO, simprocAttr]
   repeat' (refine And.intro ?_ ?_)
   all_goals (
    refine CallQ.of _ (rmust_pure _ (hW.mono le_up) p1 [41]) ?_
    simp only [*, wdV, ↓ZD, ZW, RO, simprocAttr]
    repeat' (first | exact RFin.g hA1.must ‹_› (fun he => hr1 (must_e he)) ‹_› | apply And.intro))
  rw [hi, if_neg (by decide)] at hR
  simp only [*, ↓ZD, ZW, RO, simprocAttr]
  refine CallE.pure (rIs_pure _ hW p [91]) ?_
  rcases tf (isS ws p [91]) with hi19 | hi19
  ·rw [hi19, if_pos rfl] at hR
   have hrg := isS_range hi19
   simp only [*, ↓ZD, ZW, RO, simprocAttr]
   refine CallE.rqd (ritems19_does F hws hW9 n h1 F' hFF p s' x hg hrg hR) (by simp only [*, ↓ZD, ZW, RO, simprocAttr]) ?_
   rintro p1 cs1 G1 hA1 hr1 ⟨_, ⟨_, _, _, _, _⟩, hx1, _⟩
   simp only [*, wdV, ↓ZD, ZW, RO, simprocAttr]
   repeat' (first | exact RFin.g hA1 ‹_› hr1 ‹_› | apply And.intro)
  rw [hi19, if_neg (by decide)] at hR
  simp only [*, ↓ZD, ZW, RO, simprocAttr]
  refine CallE.pure (rIs_pure _ hW p [123]) ?_
  rcases tf (isS ws p [123]) with hi20 | hi20
  ·rw [hi20, if_pos rfl] at hR
   have hrg := isS_range hi20
   simp only [*, ↓ZD, ZW, RO, simprocAttr]
   refine CallE.rqd (ritems20_does F hws hW9 n h1 F' hFF p s' x hg hrg hR) (by simp only [*, ↓ZD, ZW, RO, simprocAttr]) ?_
   rintro p1 cs1 G1 hA1 hr1 ⟨_, ⟨_, _, _, _, _⟩, hx1, _⟩
   simp only [*, wdV, ↓ZD, ZW, RO, simprocAttr]
   repeat' (first | exact RFin.g hA1 ‹_› hr1 ‹_› | apply And.intro)
  rw [hi20, if_neg (by decide)] at hR
  simp only [*, ↓ZD, ZW, RO, simprocAttr]
  simp only [Option.some.injEq, Prod.mk.injEq] at hR
  obtain ⟨rfl, rfl⟩ := hR
  refine CallE.pure (rfail_pure F' hW p 10) ?_
  simp only [*, ↓ZD, ZW, RO, simprocAttr]
  repeat' (first | exact RFin.m (p' := (failS ws p 10)) [] Agr.rfl' ⟨rfl, rfl, rfl, rfl⟩ (fun he => absurd he (failS_e (by decide))) Wk.nil all_nil | apply And.intro)
 ·rw [if_neg he0] at hR
  simp only [Option.some.injEq, Prod.mk.injEq] at hR
  obtain ⟨rfl, rfl⟩ := hR
  have hd : (p.e != 0) = true := by rw [hA.e]; simpa using he0
  simp only [*, wdV, ↓ZD, ZW, RO, simprocAttr]
  refine NewB.n ?_
  rintro b4 ⟨_, _, _, _, _, _, _⟩ _
  simp only [*, wdV, ↓ZD, ZW, RO, simprocAttr]
  repeat' (first | exact RFin.m (p' := p) [] hA ⟨rfl, rfl, rfl, rfl⟩ (fun he => absurd he (he0)) Wk.nil all_nil | apply And.intro)
end Go.Proofs.YtkbhinfpndnnfaaGreatDoor
namespace Go.Proofs.YtkbhinfpndnnfaaGreatDoor
open Go Go.Eng
set_option maxHeartbeats 1000000
set_option linter.unusedSimpArgs false
set_option linter.unusedVariables false
set_option maxRecDepth 20000
theorem rprs_none (F : Base) (l : Value) (f : Nat) (a : List Value) : RPrs F l f a (fun _ => none) := fun _ _ _ _ _ _ _ _ h => by cases h
structure AllR (F : Base) (ws : Ws) (l : Value) (n : Nat) : Prop where
 ex : RPrs F l 24 [] (G ws n .expr)
 un : RPrs F l 88 [] (G ws n .unary)
 pr : RPrs F l 99 [] (G ws n .prim)
 me : RPrs F l 96 [] (G ws n .member)
 l3 : RPrs F l 49 [.int .i64 3] (G ws n (.lev 3))
 l2 : RPrs F l 49 [.int .i64 2] (G ws n (.lev 2))
 re : RPrs F l 87 [] (G ws n .rel)
 l1 : RPrs F l 49 [.int .i64 1] (G ws n (.lev 1))
 l0 : RPrs F l 49 [.int .i64 0] (G ws n (.lev 0))
theorem allR0 (F : Base) {ws : Ws} (hws : WsOk ws) {l : Value} (hW : HasW F ws l) : AllR F ws l 0 := by
 have dn : ∀ {nt : NT} {f : Nat} {a : List Value}, RPrs F l f a (G ws 1 nt) → RPrs F l f a (G ws 0 nt) := fun h => h.weak fun s y hy => G_mono1 ws 0 _ _ _ hy
 have ex : RPrs F l 24 [] (G ws 0 .expr) := (rexpr_prs F hws hW (fun _ _ => none) (fun _ _ _ h => by cases h) (rprs_none F l _ _) (rprs_none F l _ _)).weak fun s y hy => by
  obtain ⟨he, rfl⟩ := G_zero hy; exact if_neg he
 have un : RPrs F l 88 [] (G ws 0 .unary) := (runary_prs F hws hW (fun _ _ => none) (fun _ _ _ h => by cases h) (rprs_none F l _ _) (rprs_none F l _ _)).weak fun s y hy => by
  obtain ⟨he, rfl⟩ := G_zero hy; exact if_neg he
 have z : ∀ {P : Nat → Prop}, P 0 → ∀ n ≤ 0, P n := fun h n hn => Nat.le_zero.1 hn ▸ h
 have pr := dn (nt := .prim) ((rprimary_prs F hws hW 0 (z ex)).weak fun s y hy => hy)
 have me := dn (rmember_prs F hW 0 pr (z ex))
 have l3 := dn (rlev3_prs F hW 0 (z (rlower3_prs F hW 0 un)))
 have l2 := dn (rlev2_prs F hW 0 (z (rlower2_prs F hW 0 l3)))
 have re := dn (nt := .rel) ((rrel_prs F hws hW 0 l2).weak fun s y hy => hy)
 have l1 := dn (rlev1_prs F hW 0 (z (rlower1_prs F hW 0 re)))
 have l0 := dn (rlev0_prs F hW 0 (z (rlower0_prs F hW 0 l1)))
 exact ⟨ex, un, pr, me, l3, l2, re, l1, l0⟩
theorem allR (F : Base) {ws : Ws} (hws : WsOk ws) {l : Value} (hW : HasW F ws l) : ∀ n, AllR F ws l n := by
 intro n
 induction n using Nat.strongRecOn with
 | _ n ih =>
  cases n with
  | zero => exact allR0 F hws hW
  | succ k =>
   have le : ∀ m ≤ k, AllR F ws l m := fun m hm => ih m (by omega)
   have hk := le k (Nat.le_refl _)
   refine ⟨?_, ?_, ?_, ?_, ?_, ?_, ?_, ?_, ?_⟩
   ·exact (rexpr_prs F hws hW (G ws k) (G_goes ws k) hk.ex hk.l0).weak fun s y hy => hy
   ·exact (runary_prs F hws hW (G ws k) (G_goes ws k) hk.un hk.me).weak fun s y hy => hy
   ·exact (rprimary_prs F hws hW k fun m hm => (le m hm).ex).weak fun s y hy => hy
   ·exact rmember_prs F hW k hk.pr fun m hm => (le m hm).ex
   ·exact rlev3_prs F hW k fun m hm => rlower3_prs F hW m (le m hm).un
   ·exact rlev2_prs F hW k fun m hm => rlower2_prs F hW m (le m hm).l3
   ·exact (rrel_prs F hws hW k hk.l2).weak fun s y hy => hy
   ·exact rlev1_prs F hW k fun m hm => rlower1_prs F hW m (le m hm).re
   ·exact rlev0_prs F hW k fun m hm => rlower0_prs F hW m (le m hm).l1
end Go.Proofs.YtkbhinfpndnnfaaGreatDoor
namespace Go.Proofs.YtkbhinfpndnnfaaGreatDoor
open Go Go.Eng
set_option maxHeartbeats 1000000
set_option linter.unusedSimpArgs false
set_option linter.unusedVariables false
set_option maxRecDepth 20000
theorem rread_does (F : Base) {ws : Ws} (hws : WsOk ws) {l : Value} (hW : HasW F ws l) (i : Int) : Does Tryz.prog F 10 #[l, .int .i64 i] [] (ReadP F (readS ws i)) := by
 obtain ⟨bw, cap, sp, T, fz, rfl, hFw, -⟩ := id hW
 have hol := hW.one'
 refine Does.shr (K := fun r H' => ∃ cs Hx, r = .tuple #[.agg cs.toArray, .int .i64 (readS ws i).2.1, .int .i64 (readS ws i).2.2.1, .int .i64 (readS ws i).2.2.2] ∧ Ok12 cs ∧ RepP (rdObj F Hx) cs (readS ws i).1 ∧ Wk Hx ∧ ∀ e ∈ Hx, e ∈ H') ?_ fun r H' ⟨cs, Hx, h1, h2, h3, h4, h5⟩ => ⟨Hx, h5, cs, h1, h2, h3, h4⟩
 refine does_of_svc (args := [.slice (some ⟨bw, 0, none⟩) ws.length cap, .int .i64 i]) mixed Tryz.func10 low10 (Nat.le_of_ble_eq_true rfl) fun w0 hw0 => ?_
 obtain ⟨n, hn⟩ := runG_ex ws .expr (st0 i)
 unfold readS
 generalize runG ws .expr (st0 i) = y at *
 obtain ⟨x, s'⟩ := y
 simp (disch := first | assumption | exact Ne.symm (by assumption) | omega) only [fu10, hol, ↓ZD, ZW, simprocAttr]
 refine NewB.n ?_
 rintro b1 _ _
 simp only [*, ↓ZD, ZW, RO, simprocAttr]
 refine CallE.rq (p := st0 i) (s := st0 i) (allR F hws hW n).ex Agr.rfl' (st0_good i) hn (by simp only [*, ↓ZD, ZW, RO, simprocAttr]) ?_
 rintro p1 cs1 G1 hA1 hr1 ⟨_, ⟨_, _⟩, hx1, _⟩
 simp only [*, ↓ZD, ZW, RO, simprocAttr]
 refine NewB.n ?_
 rintro b2 ⟨_, _, _⟩ _
 simp only [*, ↓ZD, ZW, RO, simprocAttr]
 refine NewB.n ?_
 rintro b3 ⟨_, _, _, _, _⟩ _
 simp only [*, ↓ZD, ZW, RO, simprocAttr]
 by_cases he : s'.e = 0
 ·obtain rfl := hA1.ok he
  have hd : (p1.e != 0) = false := by simpa using he
  rw [if_pos he]
  replace he : id (p1.e = 0) := he
  simp only [*, ↓ZD, ZW, RO, simprocAttr]
  refine TreeL.open ?_
  simp only [*, ↓ZD, ZW, RO, simprocAttr]
  repeat' (first | exact ⟨cs1, G1, rfl, ‹_›, hr1 he, ‹_›, by simp +contextual⟩ | apply And.intro)
 ·have hd : (p1.e != 0) = true := by rw [hA1.e]; simpa using he
  rw [if_neg he, ← hA1.e, ← hA1.bad]
  clear he
  simp only [*, ↓ZD, ZW, RO, simprocAttr]
  try refine TreeL.open ?_
  try simp only [*, ↓ZD, ZW, RO, simprocAttr]
  repeat' (first | exact ⟨xcells 0 lv0 (.slice none 0 0) (.slice none 0 0) [] (.slice none 0 0) (.slice none 0 0), [], rfl, ⟨rfl, rfl, rfl, rfl⟩, repP_nil, Wk.nil, all_nil⟩ | apply And.intro)
theorem ruidr_pure (F : Base) {ws : Ws} (hws : WsOk ws) {l : Value} (hW : HasW F ws l) (i : Int) : PureV Tryz.prog F 13 #[l, .int .i64 i] (.tuple #[.agg #[.string (bs (uidR ws i).1.1), .string (bs (uidR ws i).1.2)], .int .i64 (uidR ws i).2.1, .int .i64 (uidR ws i).2.2.1, .int .i64 (uidR ws i).2.2.2]) := by
 obtain ⟨bw, cap, sp, T, fz, rfl, hFw, -⟩ := id hW
 have hol := hW.one'
 refine pureV_of_svc (args := [.slice (some ⟨bw, 0, none⟩) ws.length cap, .int .i64 i]) mixed Tryz.func13 low13 (Nat.le_of_ble_eq_true rfl) fun w0 => ?_
 unfold uidR
 simp (disch := first | assumption | exact Ne.symm (by assumption) | omega) only [fu13, hol, ↓ZD, ZW, simprocAttr]
 refine NewB.n ?_
 rintro b1 _ _
 simp only [*, ↓ZD, ZW, RO, simprocAttr]
 refine CallE.pure (rUid_pure F hws hW (st0 i) (rpath_pure F hws hW (st0 i))) ?_
 simp only [*, ↓ZD, ZW, RO, simprocAttr]
 refine NewB.n ?_
 rintro b2 ⟨_, _, _⟩ _
 simp only [*, ↓ZD, ZW, RO, simprocAttr]
 refine NewB.n ?_
 rintro b3 ⟨_, _, _, _, _⟩ _
 simp only [*, ↓ZD, ZW, RO, simprocAttr]
 by_cases he : (uidS ws (st0 i)).2.e = 0
 ·have hd : ((uidS ws (st0 i)).2.e != 0) = false := by simpa using he
  rw [if_pos he]
  clear he
  simp only [*, ↓ZD, ZW, RO, simprocAttr]
  refine TreeL.open ?_
  simp only [*, ↓ZD, ZW, RO, simprocAttr]
 ·have hd : ((uidS ws (st0 i)).2.e != 0) = true := by simpa using he
  rw [if_neg he]
  clear he
  simp only [*, ↓ZD, ZW, RO, simprocAttr]
  try refine TreeL.open ?_
  try simp only [*, ↓ZD, ZW, RO, simprocAttr]
end Go.Proofs.YtkbhinfpndnnfaaGreatDoor
