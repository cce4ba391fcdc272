/- Joined. -/
import Derived.Test.YtoelfmmfjebabaaGreatDoorJd
set_option linter.unusedSectionVars false
namespace Go.Proofs.YtoelfmmfjebabaaGreatDoor
open Go Go.Eng
set_option maxHeartbeats 1000000
set_option linter.unusedSimpArgs false
set_option linter.unusedVariables false
set_option maxRecDepth 20000
theorem size_pure (F : Base) (a : Int) (ha : I64 a) : PureV Tryz.prog F 67 #[.int .i64 a] (.int .u64 (size a)) := by
 refine pureV_of_svc mixed Tryz.func67 low67 (Nat.le_of_ble_eq_true rfl) (fun w0 => ?_)
 simp (disch := first | assumption | exact Ne.symm (by assumption) | omega) only [fu67, ↓ZD, ZW, simprocAttr]
 unfold I64 at ha
 unfold size
 refine ⟨fun h => ?_, fun h => ?_⟩ <;> simp only [decide_eq_true_eq, decide_eq_false_iff_not] at h
 ·rw [if_pos h, wrap_u64, wrap_u64]; congr 1; omega
 ·rw [if_neg h, wrap_u64]; congr 1; omega
theorem size_bd (a : Int) (h : I64 a) : 0 ≤ size a ∧ size a ≤ 9223372036854775808 := by
 unfold I64 at h; unfold size; split <;> omega
def digs (n : Nat) : List UInt8 := if n < 10 then [UInt8.ofNat (48 + n)] else digs (n / 10) ++ [UInt8.ofNat (48 + n % 10)]
termination_by n
decreasing_by omega
theorem digs_lt {n : Nat} (h : n < 10) : digs n = [UInt8.ofNat (48 + n)] := by rw [digs, if_pos h]
theorem digs_ge {n : Nat} (h : ¬ n < 10) : digs n = digs (n / 10) ++ [UInt8.ofNat (48 + n % 10)] := by rw [digs, if_neg h]
theorem digs_len : ∀ (k n : Nat), n < 10 ^ (k + 1) → (digs n).length ≤ k + 1
 | 0, n, h => by rw [digs_lt (by omega)]; simp
 | k + 1, n, h => by
  by_cases h10 : n < 10
  ·rw [digs_lt h10]; simp
  ·have := digs_len k (n / 10) (by rw [Nat.pow_succ] at h; omega)
   rw [digs_ge h10]; simp; omega
theorem digs_len' {n : Nat} (h : n < 18446744073709551616) : (digs n).length ≤ 20 := digs_len 19 n (by omega)
def shows (a : Int) : List UInt8 := if a < 0 then 45 :: digs (-a).toNat else digs a.toNat
def showI (n : Nat) (x : Nat × Nat × List UInt8) : Prop :=
 x.2.1 + x.2.2.length = 20 ∧ x.1 ≤ n ∧ x.1 < 10 ^ x.2.1 ∧ (if x.2.2 = [] then x.1 = n else digs n = if x.1 = 0 then x.2.2 else digs x.1 ++ x.2.2)
theorem showI_0 (a : Int) (ha : I64 a) : showI (size a).toNat ((size a).toNat, 20, []) := by
 have := size_bd a ha
 refine ⟨by simp, Nat.le_refl _, ?_, by simp⟩
 show (size a).toNat < 10 ^ 20
 omega
theorem show_pure (F : Base) (a : Int) (ha : I64 a) : PureV Tryz.prog F 38 #[.int .i64 a] (.string (bs (shows a))) := by
 refine pureV_of_svc mixed Tryz.func38 low38 (Nat.le_of_ble_eq_true rfl) (fun w0 => ?_)
 simp (disch := first | assumption | exact Ne.symm (by assumption) | omega) only [fu38, ↓ZD, ZW, simprocAttr]
 refine NewB.of fun b1 hb1 hF1 => ?_
 simp (disch := first | assumption | exact Ne.symm (by assumption) | omega) only [hF1, ↓ZD, ZW, simprocAttr]
 refine CallE.pure (size_pure F a ha) ?_
 simp (disch := first | assumption | exact Ne.symm (by assumption) | omega) only [hF1, ↓ZD, ZW, simprocAttr]
 refine LoopL.inv (α := Nat × Nat × List UInt8) (showI (size a).toNat)
  (fun x => [(0, some (.int .i64 a)), (2, some (.string (bs []))), (3, some (.pointer (some ⟨b1, 0, none⟩))), (4, some (.int .i64 x.2.1)), (5, some (.int .u64 x.1))])
  (fun x => [(b1, .cells (byteCells (List.replicate x.2.1 0 ++ x.2.2)).toArray 125 (0, 0))])
  (fun x => x.2.1) ((size a).toNat, 20, []) (showI_0 a ha) ?_ ?_ ?_
 ·have := size_bd a ha
  have e : (((size a).toNat : Nat) : Int) = size a := by omega
  simp only [Le_nil, Le_cons, e]
  simp (disch := first | assumption | exact Ne.symm (by assumption) | omega) only [↓ZD, ZW, simprocAttr]
 ·refine ⟨by simp (disch := first | assumption | exact Ne.symm (by assumption) | omega) only [↓ZD, ZW, simprocAttr]; rfl, trivial⟩
 ·rintro ⟨u, i, S⟩ hI
  obtain ⟨hl, hun, hu, hd⟩ := hI
  simp only at hl hun hu hd ⊢
  have hsz := size_bd a ha
  have hdt : ((byteCells (List.replicate i 0 ++ S)).drop i).take (20 - i) = byteCells S := by
   rw [byteCells_drop, byteCells_take]; congr 1
   rw [List.drop_left' (by simp), List.take_of_length_le (by omega)]
  simp (disch := first | assumption | exact Ne.symm (by assumption) | omega) only [hF1, ↓ZD, ZW, simprocAttr]
  refine ⟨fun h => ?_, fun h => ?_⟩
  ·have hi : 0 < i := by
    cases i with
    | zero =>
     have : u = 0 := by simp at hu; omega
     subst this
     simp at h
    | succ j => omega
   have hi1 : (i : Int) - 1 = ((i - 1 : Nat) : Int) := by omega
   refine conj.of (by omega) ?_
   have hle : decide (i - 1 + 1 ≤ i + S.length) = true := by simp; omega
   have hst : List.take (i - 1) (byteCells (List.replicate i 0 ++ S)) ++ [Value.int IntKind.u8 (48 + (u : Int) % 10)] ++ List.drop (i - 1 + 1) (byteCells (List.replicate i 0 ++ S)) = byteCells (List.replicate (i - 1) 0 ++ (UInt8.ofNat (48 + u % 10)) :: S) := by
    have e1 : List.replicate i (0 : UInt8) = List.replicate (i - 1) 0 ++ [0] := by
     obtain ⟨j, rfl⟩ : ∃ j, i = j + 1 := ⟨i - 1, by omega⟩
     simp [List.replicate_succ']
    have t1 : (List.replicate i (0 : UInt8) ++ S).take (i - 1) = List.replicate (i - 1) 0 := by
     rw [e1, List.append_assoc]; exact List.take_left' (by simp)
    have t2 : (List.replicate i (0 : UInt8) ++ S).drop (i - 1 + 1) = S := List.drop_left' (by simp; omega)
    rw [byteCells_take, byteCells_drop, t1, t2]
    have e2 : (48 + (u : Int) % 10) = (((UInt8.ofNat (48 + u % 10)).toNat : Nat) : Int) := by
     simp only [UInt8.toNat_ofNat']; omega
    rw [e2]
    simp only [byteCells, List.map_append, List.map_cons, List.append_assoc, List.cons_append, List.nil_append]
   simp (disch := first | assumption | exact Ne.symm (by assumption) | omega) only [hF1, hi1, hle, hst, Nat.mul_one, Int.toNat_natCast, List.length_append, List.length_replicate, ↓ZD, ZW, simprocAttr]
   have hp : 10 ^ i = 10 * 10 ^ (i - 1) := by
    obtain ⟨j, rfl⟩ : ∃ j, i = j + 1 := ⟨i - 1, by omega⟩
    simp [Nat.pow_succ]; omega
   refine invK.on (u / 10, i - 1, UInt8.ofNat (48 + u % 10) :: S) ⟨?_, ?_, ?_, ?_⟩ ?_ ?_ ?_
   ·show i - 1 + (S.length + 1) = 20
    omega
   ·show u / 10 ≤ _
    omega
   ·show u / 10 < 10 ^ (i - 1)
    omega
   ·show (if UInt8.ofNat (48 + u % 10) :: S = [] then _ else digs (size a).toNat = if u / 10 = 0 then UInt8.ofNat (48 + u % 10) :: S else digs (u / 10) ++ UInt8.ofNat (48 + u % 10) :: S)
    rw [if_neg (by simp)]
    have hdu : digs u ++ S = if u / 10 = 0 then UInt8.ofNat (48 + u % 10) :: S else digs (u / 10) ++ UInt8.ofNat (48 + u % 10) :: S := by
     split
     ·rw [digs_lt (by omega), Nat.mod_eq_of_lt (by omega)]; rfl
     ·rw [digs_ge (by omega), List.append_assoc]; rfl
    rw [← hdu]
    split at hd
    ·subst hd; rename_i hS; subst hS; simp
    ·split at hd
     ·subst u
      exfalso
      have : i = 20 := by simp at h; omega
      have : S.length = 0 := by omega
      simp at this; contradiction
     ·exact hd
   ·show i - 1 < i
    omega
   ·have hw : IntKind.u64.wrap ((u : Int) / 10) = ((u / 10 : Nat) : Int) := by rw [wrap_u64]; omega
    simp only [Le_nil, Le_cons, hw]
    simp (disch := first | assumption | exact Ne.symm (by assumption) | omega) only [↓ZD, ZW, simprocAttr]
    rfl
   ·simp only [HLe_nil, HLe_cons]
    simp (disch := first | assumption | exact Ne.symm (by assumption) | omega) only [↓ZD, ZW, simprocAttr]
  ·have hi20 : i ≠ 20 := by
    rintro rfl; simp at h
   refine conj.of (by omega) ?_
   have hu0 : u = 0 := by
    simp at h; exact h.2
   have hle : i + (20 - i) ≤ i + S.length := by omega
   have hn : ((20 : Int) - (i : Int)).toNat = 20 - i := by omega
   simp (disch := first | assumption | exact Ne.symm (by assumption) | omega) only [hF1, hdt, hle, hn, Nat.mul_one, Int.toNat_natCast, List.length_append, List.length_replicate, ↓ZD, ZW, simprocAttr]
   have hS : S ≠ [] := by rintro rfl; simp at hl; omega
   rw [if_neg hS, if_pos hu0] at hd
   unfold shows
   unfold size at hd
   refine ⟨fun h => ?_, fun h => ?_⟩
   ·refine conj.of (by omega) ?_
    simp at h
    rw [if_pos h] at hd ⊢
    rw [hd]
    simp (disch := first | assumption | exact Ne.symm (by assumption) | omega) only [↓ZD, ZW, simprocAttr]
   ·simp at h
    rw [if_neg (by omega)] at hd ⊢
    rw [hd]
end Go.Proofs.YtoelfmmfjebabaaGreatDoor
namespace Go.Proofs.YtoelfmmfjebabaaGreatDoor
open Go Go.Eng
set_option maxHeartbeats 1000000
set_option linter.unusedSimpArgs false
set_option linter.unusedVariables false
set_option maxRecDepth 20000
structure Scp where
 kind : Int
 ty : Str
 ut : Str
 ui : Str
 slot : Bool
 list : List (Str × Str)
structure Pol where
 id : Str
 permit : Bool
 p : Scp
 a : Scp
 r : Scp
 conds : List (Bool × Ex')
def sc0 : Scp := ⟨0, [], [], [], false, []⟩
def prN : Str := [112, 114, 105, 110, 99, 105, 112, 97, 108]
def reN : Str := [114, 101, 115, 111, 117, 114, 99, 101]
def actN : Str := [97, 99, 116, 105, 111, 110]
def failA (s : St) (e bad : Int) : St := if s.e = 0 then ⟨s.p, s.deep, e, bad⟩ else s
def mustsS (ws : Ws) (s : St) (l : List Str) : St := l.foldl (mustS ws) s
def uidP (ws : Ws) (s : St) : (Str × Str) × St :=
 if s.e = 0 then (if (uidR ws s.p).2.2.1 = 0 then ((uidR ws s.p).1, ⟨(uidR ws s.p).2.1, s.deep, s.e, s.bad⟩) else (([], []), ⟨s.p, s.deep, (uidR ws s.p).2.2.1, (uidR ws s.p).2.2.2⟩)) else (([], []), s)
def placeP (ws : Ws) (s : St) (x : Scp) (nm : Str) : Scp × St :=
 if s.e = 0 ∧ wk ws s = 4 then (⟨x.kind, x.ty, x.ut, x.ui, true, x.list⟩, adv (if wtx ws s = nm then s else failS ws s 32))
 else (⟨x.kind, x.ty, (uidP ws s).1.1, (uidP ws s).1.2, x.slot, x.list⟩, (uidP ws s).2)
def kindS (k : Int) (ty : Str) : Scp := ⟨k, ty, [], [], false, []⟩
def scopeP (ws : Ws) (s : St) (nm : Str) : Scp × St :=
 let s1 := mustS ws s nm
 if isS ws s1 [61, 61] then placeP ws (adv s1) (kindS 1 []) nm
 else if isS ws s1 [105, 110] then placeP ws (adv s1) (kindS 2 []) nm
 else if isS ws s1 [105, 115] then
  let t := pathS ws (adv s1)
  if isS ws t.2 [105, 110] then placeP ws (adv t.2) (kindS 4 t.1) nm else (kindS 3 t.1, t.2)
 else (sc0, s1)
def uidsF (ws : Ws) : Nat → St → List (Str × Str) → List (Str × Str) × St
 | 0, s, l => (l, s)
 | n + 1, s, l => if isS ws (uidP ws s).2 [44] then uidsF ws n (adv (uidP ws s).2) (l ++ [(uidP ws s).1]) else (l ++ [(uidP ws s).1], (uidP ws s).2)
def actUid (k : Int) (u : (Str × Str) × St) : Scp × St := (⟨k, [], u.1.1, u.1.2, false, []⟩, u.2)
def actionP (ws : Ws) (s : St) : Scp × St :=
 let s1 := mustS ws s actN
 if isS ws s1 [61, 61] then actUid 1 (uidP ws (adv s1))
 else if isS ws s1 [105, 110] = false then (sc0, s1)
 else if isS ws (adv s1) [91] = false then actUid 2 (uidP ws (adv s1))
 else if isS ws (adv (adv s1)) [93] then (kindS 5 [], adv (adv (adv s1)))
 else (⟨5, [], [], [], false, (uidsF ws (ws.length + 1) (adv (adv s1)) []).1⟩, mustS ws (uidsF ws (ws.length + 1) (adv (adv s1)) []).2 [93])
mutual
def hasSl : Ex' → Str → Bool
 | .mk op _ nm kids _, t => (op == 3 && nm == t) || hasSlL kids t
def hasSlL : List Ex' → Str → Bool
 | [], _ => false
 | x :: l, t => hasSl x t || hasSlL l t
end
def condP (ws : Ws) (x : Pol) (wh : Bool) (s : St) : Pol × St :=
 let s1 := mustS ws s [123]
 if s1.e ≠ 0 then (x, s1)
 else
  let R := readS ws s1.p
  if R.2.2.1 ≠ 0 then (x, ⟨s1.p, s1.deep, R.2.2.1, R.2.2.2⟩)
  else
   let f := ((wdAt ws s1.p).2 : Int)
   let s2 := mustS ws ⟨R.2.1, s1.deep, s1.e, s1.bad⟩ [125]
   let s3 := if 50 < depX R.1 then failA s2 11 f else s2
   let s4 := if (!x.p.slot && hasSl R.1 prN) || (!x.r.slot && hasSl R.1 reN) then failA s3 32 f else s3
   (⟨x.id, x.permit, x.p, x.a, x.r, x.conds ++ [(wh, R.1)]⟩, s4)
def whenT : Str := [119, 104, 101, 110]
def unlT : Str := [117, 110, 108, 101, 115, 115]
def condsF (ws : Ws) : Nat → Pol → St → Pol × St
 | 0, x, s => (x, s)
 | n + 1, x, s =>
  if s.e ≠ 0 then (x, s)
  else if isS ws s whenT then condsF ws n (condP ws x true (adv s)).1 (condP ws x true (adv s)).2
  else if isS ws s unlT then condsF ws n (condP ws x false (adv s)).1 (condP ws x false (adv s)).2
  else (x, mustS ws s [59])
def idP (ws : Ws) (n : Int) (s : St) : Str × St :=
 if isS ws s [64] then
  let t := takeS ws (mustS ws (mustS ws (adv s) [105, 100]) [40]) 3
  (t.1, mustS ws t.2 [41])
 else ([112, 111, 108, 105, 99, 121] ++ shows n, s)
def permT : Str := [112, 101, 114, 109, 105, 116]
def forbT : Str := [102, 111, 114, 98, 105, 100]
def headP (ws : Ws) (n : Int) (s : St) : Pol × St :=
 let i := idP ws n s
 let b := isS ws i.2 permT
 let s2 := if b then adv i.2 else mustS ws i.2 forbT
 let p := scopeP ws (mustS ws s2 [40]) prN
 let a := actionP ws (mustS ws p.2 [44])
 let r := scopeP ws (mustS ws a.2 [44]) reN
 (⟨i.1, b, p.1, a.1, r.1, []⟩, mustS ws r.2 [41])
def policyP (ws : Ws) (n : Int) (s : St) : Pol × St := condsF ws (ws.length + 1) (headP ws n s).1 (headP ws n s).2
def polsF (ws : Ws) : Nat → List Pol → St → List Pol × St
 | 0, l, s => (l, s)
 | n + 1, l, s => if wk ws s = 0 then (l, s) else if (policyP ws l.length s).2.e ≠ 0 then ([], (policyP ws l.length s).2) else polsF ws n (l ++ [(policyP ws l.length s).1]) (policyP ws l.length s).2
end Go.Proofs.YtoelfmmfjebabaaGreatDoor
namespace Go.Proofs.YtoelfmmfjebabaaGreatDoor
open Go Go.Eng
set_option maxHeartbeats 1000000
set_option linter.unusedSimpArgs false
set_option linter.unusedVariables false
set_option maxRecDepth 20000
abbrev RdP (l : Value) (p : St) : Obj := .cells #[l, .int .i64 p.p, .int .i64 p.e, .int .i64 p.bad] 71 (0, 0)
def EndW (ws : Ws) : Prop := (ws.getD (ws.length - 1) ((0, [], 0), 0)).1 = (0, [], 0)
theorem wdAt_end {ws : Ws} (hE : EndW ws) {p : Int} (h : ¬ (0 ≤ p ∧ p < ws.length)) : wdAt ws p = ws.getD (ws.length - 1) ((0, [], 0), 0) := by
 rw [wdAt_out h]
 exact Prod.ext hE.symm rfl
theorem pword_pure (F : Base) {ws : Ws} {l : Value} (hW : HasW F ws l) (hE : EndW ws) {b : Nat} {p : St} (hp : 0 ≤ p.p) (hb : F b = some (RdP l p)) : PureV Tryz.prog F 19 #[.pointer (some ⟨b, 0, none⟩)] (.agg (wdV (wdAt ws p.p).1 (wdAt ws p.p).2).toArray) := by
 obtain ⟨bw, cap, sp, T, fz, rfl, hFw, hc, hm, hne⟩ := hW
 have hpos : 0 < ws.length := List.length_pos_iff.2 hne
 refine pureV_of_svc (args := [.pointer (some ⟨b, 0, none⟩)]) mixed Tryz.func19 low19 (Nat.le_of_ble_eq_true rfl) (fun w0 => ?_)
 simp only [fu19, ↓ZD, ZW, simprocAttr]
 refine NewB.of fun b2 hb2 hF2 => ?_
 obtain ⟨i, hi, hm2, hw⟩ : ∃ i : Nat, i < ws.length ∧ (if (ws.length : Int) - 1 < p.p then (ws.length : Int) - 1 else p.p) = i ∧ wdAt ws p.p = ws.getD i ((0, [], 0), 0) := by
  by_cases h : p.p < ws.length
  ·refine ⟨p.p.toNat, by omega, by rw [if_neg (by omega)]; omega, ?_⟩
   have := wdAt_in (ws := ws) (i := p.p.toNat) (by omega)
   rwa [show ((p.p.toNat : Nat) : Int) = p.p by omega] at this
  ·exact ⟨ws.length - 1, by omega, by rw [if_pos (by omega)]; omega, wdAt_end hE (by omega)⟩
 have hld := wds_at (sp := sp) (T := T) (fz := fz) hi
 rw [hw]
 simp (disch := first | assumption | exact Ne.symm (by assumption) | omega) only [hb, hF2, hm2, hFw, hld, Int.toNat_natCast, wdV, ↓ZD, ZW, simprocAttr]
 refine conj.of (by omega) ?_
 simp (disch := first | assumption | exact Ne.symm (by assumption) | omega) only [hb, hF2, hm2, hFw, hld, Int.toNat_natCast, wdV, ↓ZD, ZW, simprocAttr]
theorem pis_pure (F : Base) {ws : Ws} {l : Value} (hW : HasW F ws l) (hE : EndW ws) {b : Nat} {p : St} (hp : 0 ≤ p.p) (hb : F b = some (RdP l p)) (t : Str) : PureV Tryz.prog F 68 #[.pointer (some ⟨b, 0, none⟩), .string (bs t)] (.bool (isS ws p t)) := by
 refine pureV_of_svc (args := [.pointer (some ⟨b, 0, none⟩), .string (bs t)]) mixed Tryz.func68 low68 (Nat.le_of_ble_eq_true rfl) (fun w0 => ?_)
 simp only [fu68, ↓ZD, ZW, simprocAttr]
 refine CallE.pure (pword_pure F hW hE hp hb) ?_
 simp only [hb, wdV, ↓ZD, ZW, simprocAttr]
 refine NewB.of fun b2 hb2 hF2 => ?_
 simp (disch := first | assumption | exact Ne.symm (by assumption) | omega) only [hb, hF2, wdV, ↓ZD, ZW, simprocAttr]
 simp [isS, wk, wtx]
def Rp1 (F : Base) (l : Value) (f : Nat) (args : List Value) (b : Nat) (p : St) (r : Value) (p' : St) : Prop := Does Tryz.prog F f (.pointer (some ⟨b, 0, none⟩) :: args).toArray [(b, RdP l p)] (fun v H' => v = r ∧ H' = [(b, RdP l p')])
theorem CallE.rp1 {X : List Nat} {F : Base} {w0 : World} {l : Value} {f : Nat} {args : List Value} {b : Nat} {p p' : St} {r : Value} {H : Hp} {K : Value → Hp → Prop} (Hl : Hp) (h : Rp1 (rdObj F Hl) l f args b p r p')
  (hb : (b, RdP l p) ∈ H) (hl : ∀ e ∈ Hl, e ∈ H) (nl : ∀ e ∈ Hl, e.1 ≠ b) (hk : K r ((b, RdP l p') :: Hl)) : @CallE Tryz.prog X F w0 f (.pointer (some ⟨b, 0, none⟩) :: args).toArray H ⟨K⟩ :=
 CallG.shr (K := fun v H' => v = r ∧ H' = Hl ++ [(b, RdP l p')]) (@CallE.does Tryz.prog X F (rdObj F Hl) w0 f _ H _ _ [(b, RdP l p)] Hl h (fun _ _ h => h) (by simpa using hb) hl (by simpa using fun a o h => (nl (a, o) h).symm) (fun v H' ⟨h1, h2⟩ _ _ _ => ⟨h1, by rw [h2]⟩))
  fun v H' ⟨h1, h2⟩ => ⟨(b, RdP l p') :: Hl, by rw [h2]; simp +contextual, by rw [h1]; exact hk⟩
theorem pfail_rd (F : Base) {l : Value} {b : Nat} (hFb : F b = none) (p : St) (e a : Int) : Rp1 F l 69 [.int .i64 e, .int .i64 a] b p (.tuple #[]) (failA p e a) := by
 refine does_of_svc (args := [.pointer (some ⟨b, 0, none⟩), .int .i64 e, .int .i64 a]) mixed Tryz.func69 low69 (Nat.le_of_ble_eq_true rfl) (fun w0 hw0 => ?_)
 simp only [fu69, hFb, ↓ZD, ZW, simprocAttr]
 unfold failA
 by_cases h : p.e = 0
 ·have hd : (p.e == 0) = true := by simpa using h
  rw [if_pos h]
  simp only [hd, hFb, ↓ZD, ZW, simprocAttr]
 ·have hd : (p.e == 0) = false := by simpa using h
  rw [if_neg h]
  simp only [hd, hFb, ↓ZD, ZW, simprocAttr]
theorem pskip_rd (F : Base) {ws : Ws} {l : Value} (hW : HasW F ws l) (hE : EndW ws) {b : Nat} (hFb : F b = none) {p : St} (hp : 0 ≤ p.p) (t : Str) : Rp1 F l 39 [.string (bs t)] b p (.bool (isS ws p t)) (if isS ws p t then adv p else p) := by
 have hb : rdObj F [(b, RdP l p)] b = some (RdP l p) := by simp [rdObj, hFb, lk]
 obtain ⟨bw, cap, sp, T, fz, rfl, hFw, hc, hm, hne⟩ := id hW
 refine does_of_svc (args := [.pointer (some ⟨b, 0, none⟩), .string (bs t)]) mixed Tryz.func39 low39 (Nat.le_of_ble_eq_true rfl) (fun w0 hw0 => ?_)
 simp only [fu39, hFb, ↓ZD, ZW, simprocAttr]
 refine CallE.pureH (pis_pure _ (hW.mono le_up) hE hp hb t) ?_
 simp only [hFb, ↓ZD, ZW, simprocAttr]
 cases h : isS ws p t with
 | false => simp only [hFb, h, ↓ZD, ZW, simprocAttr]
 | true =>
  have h1 := isS_range h
  simp (disch := first | assumption | exact Ne.symm (by assumption) | omega) only [hFb, h, adv, ↓ZD, ZW, simprocAttr]
theorem mustS_p {ws : Ws} {p : St} {t : Str} (h : 0 ≤ p.p) : 0 ≤ (mustS ws p t).p := by
 unfold mustS adv failS
 split
 ·show (0 : Int) ≤ p.p + 1; omega
 ·split <;> exact h
end Go.Proofs.YtoelfmmfjebabaaGreatDoor
namespace Go.Proofs.YtoelfmmfjebabaaGreatDoor
open Go Go.Eng
set_option maxHeartbeats 1000000
set_option linter.unusedSimpArgs false
set_option linter.unusedVariables false
set_option maxRecDepth 20000
theorem failA_S {ws : Ws} {s : St} {e : Int} : failA s e (wdAt ws s.p).2 = failS ws s e := rfl
theorem mustsS_p {ws : Ws} : ∀ {l : List Str} {p : St}, 0 ≤ p.p → 0 ≤ (mustsS ws p l).p
 | [], _, h => h
 | t :: l, p, h => mustsS_p (l := l) (mustS_p h)
theorem mustsS_snoc {ws : Ws} {p : St} {l : List Str} {i : Nat} {t : Str} (h : l[i]? = some t) : mustsS ws p (l.take (i + 1)) = mustS ws (mustsS ws p (l.take i)) t := by
 unfold mustsS; rw [take_snoc h, List.foldl_append]; rfl
theorem pmust_rd (F : Base) {ws : Ws} {l : Value} (hW : HasW F ws l) (hE : EndW ws) {b : Nat} (hFb : F b = none) {p : St} (hp : 0 ≤ p.p) {v : Value} {ts : List Str} (hT : SlS F v ts) : Rp1 F l 40 [v] b p (.tuple #[]) (mustsS ws p ts) := by
 obtain ⟨a1, c1, rfl, hc1, hl1, h1, -⟩ := hT
 refine does_of_svc (args := [.pointer (some ⟨b, 0, none⟩), .slice a1 ts.length c1]) mixed Tryz.func40 low40 (Nat.le_of_ble_eq_true rfl) (fun w0 hw0 => ?_)
 simp only [fu40, hFb, ↓ZD, ZW, simprocAttr]
 refine LoopL.inv (α := Nat) (fun i => i ≤ ts.length) (fun i => [(0, some (.pointer (some ⟨b, 0, none⟩))), (6, some (.slice a1 ts.length c1)), (7, some (.int .i64 ts.length)), (8, some (.int .i64 i))])
  (fun i => [(b, RdP l (mustsS ws p (ts.take i)))]) (fun i => ts.length - i) 0 (Nat.zero_le _) (by (simp (disch := first | assumption | exact Ne.symm (by assumption) | omega) only [↓ZD, ZW, simprocAttr]; try trivial)) (by (try (simp (disch := first | assumption | exact Ne.symm (by assumption) | omega) only [↓ZD, ZW, simprocAttr]); try trivial)) ?_
 rintro i hi
 by_cases hlt : i < ts.length
 ·have hd : decide ((i : Int) < (ts.length : Int)) = true := by simp; omega
  have gx := getS hlt
  obtain ⟨ba, oa, rfl, hla⟩ := (h1 i _ gx).ld1
  have hm := mustsS_snoc (ws := ws) (p := p) gx
  have hq := mustsS_p (ws := ws) (l := ts.take i) hp
  generalize ts.getD i [] = t at *
  generalize mustsS ws p (ts.take i) = q at *
  simp (disch := first | assumption | exact Ne.symm (by assumption) | omega) only [hd, hFb, ↓ZD, ZW, simprocAttr]
  refine conj.of (by omega) ?_
  simp (disch := first | assumption | exact Ne.symm (by assumption) | omega) only [hd, hFb, Int.toNat_natCast, ↓hla, ↓ZD, ZW, simprocAttr]
  refine CallE.rp1 [] (pskip_rd _ (hW.mono le_up) hE (rdObj_none hFb (by simp)) hq t) List.mem_cons_self (by simp) (by simp) ?_
  unfold mustS at hm
  have hb : rdObj F [(b, RdP l q)] b = some (RdP l q) := by simp [rdObj, hFb, lk]
  cases h : isS ws q t with
  | true =>
   rw [h, if_pos rfl] at hm
   simp (disch := first | assumption | exact Ne.symm (by assumption) | omega) only [hd, hFb, ↓ZD, ZW, simprocAttr]
   refine invK.on (i + 1) (by omega) (by omega) (by (simp (disch := first | assumption | exact Ne.symm (by assumption) | omega) only [↓ZD, ZW, simprocAttr]; try trivial)) ?_
   rw [hm]
   exact ⟨by simp [lk], trivial⟩
  | false =>
   rw [h, if_neg (by simp)] at hm
   simp (disch := first | assumption | exact Ne.symm (by assumption) | omega) only [hd, hFb, ↓ZD, ZW, simprocAttr]
   refine CallE.pureH (pword_pure _ (hW.mono le_up) hE hq hb) ?_
   simp (disch := first | assumption | exact Ne.symm (by assumption) | omega) only [hd, hFb, wf3, wsz, ↓ZD, ZW, simprocAttr]
   refine CallE.rp1 [] (pfail_rd _ (l := l) (rdObj_none hFb (by simp)) q 10 _) List.mem_cons_self (by simp) (by simp) ?_
   simp (disch := first | assumption | exact Ne.symm (by assumption) | omega) only [hd, hFb, ↓ZD, ZW, simprocAttr]
   refine invK.on (i + 1) (by omega) (by omega) (by (simp (disch := first | assumption | exact Ne.symm (by assumption) | omega) only [↓ZD, ZW, simprocAttr]; try trivial)) ?_
   rw [hm]
   exact ⟨by simp [lk, failA_S], trivial⟩
 ·have hd : decide ((i : Int) < (ts.length : Int)) = false := by simp; omega
  obtain rfl : i = ts.length := by omega
  simp (disch := first | assumption | exact Ne.symm (by assumption) | omega) only [hd, hFb, List.take_length, ↓ZD, ZW, simprocAttr]
end Go.Proofs.YtoelfmmfjebabaaGreatDoor
namespace Go.Proofs.YtoelfmmfjebabaaGreatDoor
open Go Go.Eng
set_option maxHeartbeats 1000000
set_option linter.unusedSimpArgs false
set_option linter.unusedVariables false
set_option maxRecDepth 20000
end Go.Proofs.YtoelfmmfjebabaaGreatDoor
namespace Go.Proofs.YtoelfmmfjebabaaGreatDoor
open Go Go.Eng
set_option maxHeartbeats 1000000
set_option linter.unusedSimpArgs false
set_option linter.unusedVariables false
set_option maxRecDepth 20000
end Go.Proofs.YtoelfmmfjebabaaGreatDoor
namespace Go.Proofs.YtoelfmmfjebabaaGreatDoor
open Go Go.Eng
set_option maxHeartbeats 1000000
set_option linter.unusedSimpArgs false
set_option linter.unusedVariables false
set_option maxRecDepth 20000
abbrev v0 : Value := .slice none 0 0
def scV (x : Scp) (v : Value) : Value := .agg #[.int .i64 x.kind, .string (bs x.ty), .string (bs x.ut), .string (bs x.ui), .bool x.slot, v]
theorem takeS_p {ws : Ws} {p : St} {k : Int} (h : 0 ≤ p.p) : 0 ≤ (takeS ws p k).2.p := by
 unfold takeS adv failS
 split
 ·show (0 : Int) ≤ p.p + 1; omega
 ·show (0 : Int) ≤ (if p.e = 0 then _ else _ : St).p
  split <;> exact h
theorem failS_p {ws : Ws} {p : St} {e : Int} (h : 0 ≤ p.p) : 0 ≤ (failS ws p e).p := by
 unfold failS; split <;> exact h
theorem pathS_p {ws : Ws} {p : St} (h : 0 ≤ p.p) : 0 ≤ (pathS ws p).2.p := by
 have h1 : 0 ≤ (if wtx ws p ∈ ownL then failS ws p 10 else p).p := by
  split
  ·exact failS_p h
  ·exact h
 have h2 := takeS_p (ws := ws) (k := 1) h1
 unfold pathS pathT
 generalize takeS ws (if wtx ws p ∈ ownL then failS ws p 10 else p) 1 = y at *
 split
 ·show (0 : Int) ≤ y.2.p + ((pathL (ws.drop y.2.p.toNat)).2 : Nat); omega
 ·exact h2
end Go.Proofs.YtoelfmmfjebabaaGreatDoor
namespace Go.Proofs.YtoelfmmfjebabaaGreatDoor
open Go Go.Eng
set_option maxHeartbeats 1000000
set_option linter.unusedSimpArgs false
set_option linter.unusedVariables false
set_option maxRecDepth 20000
theorem hasSlL_drop {l : List Ex'} {i : Nat} {x : Ex'} (h : l[i]? = some x) (t : Str) : hasSlL (l.drop i) t = (hasSl x t || hasSlL (l.drop (i + 1)) t) := by
 obtain ⟨hi, rfl⟩ := List.getElem?_eq_some_iff.mp h
 rw [List.drop_eq_getElem_cons hi, hasSlL]
theorem slots_pure (F : Base) (t : Str) {cs : List Value} {e : Ex'} (h : RepX F cs e) : PureV Tryz.prog F 73 #[.agg cs.toArray, .string (bs t)] (.bool (hasSl e t)) := by
 induction h with
 | mk op v u1 u2 nm a1 c1 kids g1 vn names hu hop hk hn hl1 hc1 h1 r1 hN i1 =>
  obtain ⟨an, cn, rfl, hcn, -⟩ := hN
  refine pureV_of_svc (args := [.agg (xcells op v u1 u2 nm (.slice a1 kids.length c1) (.slice an names.length cn)).toArray, .string (bs t)]) mixed Tryz.func73 low73 (Nat.le_of_ble_eq_true rfl) (fun w0 => ?_)
  unfold xcells
  simp (disch := first | assumption | exact Ne.symm (by assumption) | omega) only [fu73, ↓ZD, ZW, simprocAttr]
  refine NewB.of fun b1 hb1 hF1 => ?_
  rw [hasSl]
  simp (disch := first | assumption | exact Ne.symm (by assumption) | omega) only [hF1, ↓ZD, ZW, simprocAttr]
  generalize (op == 3 && nm == t) = f0
  refine LoopL.inv (α := Nat × Bool) (fun x => x.1 ≤ kids.length ∧ (f0 || hasSlL kids t) = (x.2 || hasSlL (kids.drop x.1) t))
   (fun x => [(1, some (.string (bs t))), (5, some (.bool x.2)), (18, some (.slice a1 kids.length c1)), (19, some (.int .i64 kids.length)), (20, some (.int .i64 x.1))])
   (fun x => []) (fun x => kids.length - x.1) (0, f0) ⟨Nat.zero_le _, rfl⟩ (by (simp (disch := first | assumption | exact Ne.symm (by assumption) | omega) only [↓ZD, ZW, simprocAttr]; try trivial)) trivial ?_
  rintro ⟨i, f⟩ ⟨hi, hfw⟩
  simp only at hi hfw ⊢
  rw [hfw]
  by_cases hlt : i < kids.length
  ·have hd : decide ((i : Int) < (kids.length : Int)) = true := by simp; omega
   have gx := getX hlt
   have hc := i1 i _ gx
   obtain ⟨q1, q2, q3, q4, q5, q6, q7, q8, q9, q10, q11, q12, q13, q14, q15, q16, q17, q18, q19, q20, e1⟩ := (r1 i _ gx).form
   obtain ⟨ba, oa, rfl, hla⟩ := (h1 i _ gx).ldn
   rw [e1] at hc hla
   have hs := hasSlL_drop gx t
   rw [hs]
   simp (disch := first | assumption | exact Ne.symm (by assumption) | omega) only [hF1, hd, ↓ZD, ZW, simprocAttr]
   refine conj.of (by omega) ?_
   simp (disch := first | assumption | exact Ne.symm (by assumption) | omega) only [hF1, hd, Int.toNat_natCast, ↓hla, ↓ZD, ZW, simprocAttr]
   refine NewB.of fun b2 hb2 hF2 => ?_
   simp (disch := first | assumption | exact Ne.symm (by assumption) | omega) only [hF2, ↓ZD, ZW, simprocAttr]
   refine CallQ.of _ (fun _ w hw => hc w fun b o hb => hw b o (le_up b o hb)) ?_
   simp (disch := first | assumption | exact Ne.symm (by assumption) | omega) only [hF2, ↓ZD, ZW, simprocAttr]
   refine invK.on (i + 1, f || hasSl (kids.getD i nilX) t) ⟨by simp only; omega, by simp only [Bool.or_assoc]⟩ (by simp only; omega) ?_ trivial
   simp only [Le_nil, Le_cons]
   cases f <;> simp (disch := first | assumption | exact Ne.symm (by assumption) | omega) only [↓ZD, ZW, simprocAttr] <;> try simp
  ·have hd : decide ((kids.length : Int) < (kids.length : Int)) = false := by simp
   obtain rfl : i = kids.length := by omega
   rw [List.drop_length, hasSlL, Bool.or_false]
   simp (disch := first | assumption | exact Ne.symm (by assumption) | omega) only [hF1, hd, ↓ZD, ZW, simprocAttr]
end Go.Proofs.YtoelfmmfjebabaaGreatDoor
namespace Go.Proofs.YtoelfmmfjebabaaGreatDoor
open Go Go.Eng
set_option maxHeartbeats 1000000
set_option linter.unusedSimpArgs false
set_option linter.unusedVariables false
set_option maxRecDepth 20000
end Go.Proofs.YtoelfmmfjebabaaGreatDoor
namespace Go.Proofs.YtoelfmmfjebabaaGreatDoor
open Go Go.Eng
set_option maxHeartbeats 1000000
set_option linter.unusedSimpArgs false
set_option linter.unusedVariables false
set_option maxRecDepth 20000
def SlN (n : Nat) (F : Base) (v : Value) (gs : List (List Value)) : Prop := ∃ a c, v = .slice a gs.length c ∧ gs.length ≤ c ∧ c ≤ 9223372036854775807 ∧ ∀ (i : Nat) (g : List Value), gs[i]? = some g → Cl F a n i g
theorem SlN.mono {n : Nat} {F F' : Base} {v : Value} {gs : List (List Value)} (h : SlN n F v gs) (hF : ∀ b o, F b = some o → F' b = some o) : SlN n F' v gs := by
 obtain ⟨a, c, h1, h2, h3, h4⟩ := h; exact ⟨a, c, h1, h2, h3, fun i g hg => (h4 i g hg).mono hF⟩
theorem SlN.nil {n : Nat} {F : Base} : SlN n F v0 [] := ⟨none, 0, rfl, Nat.le_refl _, by decide, fun i g h => by simp at h⟩
theorem rows_at {n : Nat} {gs : List (List Value)} {sp : List Value} (hl : ∀ g ∈ gs, g.length = n) {i : Nat} {g : List Value} (h : gs[i]? = some g) : ((gs.flatten ++ sp).drop (i * n)).take n = g ∧ i * n + n ≤ (gs.flatten ++ sp).length := by
 induction gs generalizing i with
 | nil => simp at h
 | cons x r ih =>
  have hx := hl x List.mem_cons_self
  cases i with
  | zero =>
   simp only [List.getElem?_cons_zero, Option.some.injEq] at h
   subst h
   simp only [List.flatten_cons, List.append_assoc, Nat.zero_mul, List.drop_zero]
   exact ⟨List.take_left' hx, by rw [List.length_append]; omega⟩
  | succ i =>
   obtain ⟨h1, h2⟩ := ih (fun c hc => hl c (List.mem_cons_of_mem _ hc)) (by simpa using h)
   simp only [List.flatten_cons, List.append_assoc]
   have e : (i + 1) * n = x.length + i * n := by rw [Nat.add_mul, hx]; omega
   refine ⟨?_, by rw [List.length_append, e]; omega⟩
   rw [e, ← List.drop_drop, List.drop_left' rfl]
   exact h1
theorem SlN.own {n T : Nat} {F : Base} {v : Value} {gs : List (List Value)} {Ho H : Hp} (h : OwnS F n T gs.flatten gs.length v Ho) (hn : ∀ g ∈ gs, g.length = n) (hl : ∀ e ∈ Ho, lk H e.1 = some e.2) : SlN n (rdObj F H) v gs := by
 rcases h.out with ⟨h1, h2, rfl, -⟩ | ⟨b, cap, sp, rfl, rfl, hF, h1, h2, h3, h4⟩
 ·have : gs = [] := List.eq_nil_of_length_eq_zero h2
  subst this; exact SlN.nil
 ·refine ⟨_, _, rfl, h3, h4, fun i g hg => ?_⟩
  obtain ⟨k1, k2⟩ := rows_at (sp := sp) hn hg
  exact ⟨b, 0, _, _, _, rfl, (rdObj_own hF).trans (hl _ (List.mem_singleton.2 rfl)), by simpa using k2, by simpa using k1⟩
def All2 {α β : Type} (R : α → β → Prop) : List α → List β → Prop
 | [], [] => True
 | a :: l, b :: m => R a b ∧ All2 R l m
 | _, _ => False
theorem All2.len {α β : Type} {R : α → β → Prop} : ∀ {l : List α} {m : List β}, All2 R l m → l.length = m.length
 | [], [], _ => rfl
 | a :: l, b :: m, h => by rw [List.length_cons, List.length_cons, All2.len h.2]
 | [], _ :: _, h => h.elim
 | _ :: _, [], h => h.elim
theorem All2.mono {α β : Type} {R S : α → β → Prop} (hRS : ∀ a b, R a b → S a b) : ∀ {l : List α} {m : List β}, All2 R l m → All2 S l m
 | [], [], _ => trivial
 | a :: l, b :: m, h => ⟨hRS a b h.1, All2.mono hRS h.2⟩
 | [], _ :: _, h => h.elim
 | _ :: _, [], h => h.elim
theorem All2.snoc {α β : Type} {R : α → β → Prop} {a : α} {b : β} (h1 : R a b) : ∀ {l : List α} {m : List β}, All2 R l m → All2 R (l ++ [a]) (m ++ [b])
 | [], [], _ => ⟨h1, trivial⟩
 | _ :: l, _ :: m, h => ⟨h.1, All2.snoc h1 h.2⟩
 | [], _ :: _, h => h.elim
 | _ :: _, [], h => h.elim
theorem All2.at {α β : Type} {R : α → β → Prop} : ∀ {l : List α} {m : List β} (_ : All2 R l m) {i : Nat} {b : β}, m[i]? = some b → ∃ a, l[i]? = some a ∧ R a b
 | [], [], _, i, b, hb => by simp at hb
 | x :: l, y :: m, h, 0, b, hb => by
  simp only [List.getElem?_cons_zero, Option.some.injEq] at hb
  subst hb; exact ⟨x, rfl, h.1⟩
 | x :: l, y :: m, h, i + 1, b, hb => by
  obtain ⟨a, h1, h2⟩ := All2.at h.2 (i := i) (b := b) (by simpa using hb)
  exact ⟨a, by simpa using h1, h2⟩
 | [], _ :: _, h, _, _, _ => h.elim
 | _ :: _, [], h, _, _, _ => h.elim
theorem All2.all {α β : Type} {R : α → β → Prop} {P : α → Prop} (hP : ∀ a b, R a b → P a) : ∀ {l : List α} {m : List β}, All2 R l m → ∀ a ∈ l, P a
 | [], [], _, a, ha => by cases ha
 | x :: l, y :: m, h, a, ha => by
  rcases List.mem_cons.1 ha with rfl | ha
  ·exact hP _ _ h.1
  ·exact All2.all hP h.2 a ha
 | [], _ :: _, h, _, _ => h.elim
 | _ :: _, [], h, _, _ => h.elim
abbrev uidC (u : Str × Str) : List Value := [.string (bs u.1), .string (bs u.2)]
def SlU (F : Base) (v : Value) (us : List (Str × Str)) : Prop := SlN 2 F v (us.map uidC)
theorem SlU.mono {F F' : Base} {v : Value} {us : List (Str × Str)} (h : SlU F v us) (hF : ∀ b o, F b = some o → F' b = some o) : SlU F' v us := SlN.mono h hF
theorem SlU.nil {F : Base} : SlU F v0 [] := SlN.nil
def CondR (F : Base) (g : List Value) (c : Bool × Ex') : Prop := ∃ cs, g = .bool c.1 :: cs ∧ RepP F cs c.2
theorem CondR.mono {F F' : Base} (hF : ∀ b o, F b = some o → F' b = some o) {g : List Value} {c : Bool × Ex'} (h : CondR F g c) : CondR F' g c := by
 obtain ⟨cs, h1, h2⟩ := h; exact ⟨cs, h1, h2.mono hF⟩
theorem CondR.len {F : Base} {g : List Value} {c : Bool × Ex'} (h : CondR F g c) : g.length = 13 := by
 obtain ⟨cs, rfl, h2⟩ := h; simp [h2.len]
def SlC (F : Base) (v : Value) (cs : List (Bool × Ex')) : Prop := ∃ gs, SlN 13 F v gs ∧ All2 (CondR F) gs cs
theorem SlC.mono {F F' : Base} {v : Value} {cs : List (Bool × Ex')} (h : SlC F v cs) (hF : ∀ b o, F b = some o → F' b = some o) : SlC F' v cs := by
 obtain ⟨gs, h1, h2⟩ := h; exact ⟨gs, h1.mono hF, h2.mono fun _ _ => CondR.mono hF⟩
abbrev polC (x : Pol) (vp va vr vc : Value) : List Value :=
 [.string (bs x.id), .bool x.permit, .int .i64 x.p.kind, .string (bs x.p.ty), .string (bs x.p.ut), .string (bs x.p.ui), .bool x.p.slot, vp,
  .int .i64 x.a.kind, .string (bs x.a.ty), .string (bs x.a.ut), .string (bs x.a.ui), .bool x.a.slot, va,
  .int .i64 x.r.kind, .string (bs x.r.ty), .string (bs x.r.ut), .string (bs x.r.ui), .bool x.r.slot, vr, vc]
def RepPol (F : Base) (g : List Value) (x : Pol) : Prop := ∃ va vc, g = polC x v0 va v0 vc ∧ SlU F va x.a.list ∧ SlC F vc x.conds
theorem RepPol.mono {F F' : Base} (hF : ∀ b o, F b = some o → F' b = some o) {g : List Value} {x : Pol} (h : RepPol F g x) : RepPol F' g x := by
 obtain ⟨va, vc, h1, h2, h3⟩ := h; exact ⟨va, vc, h1, h2.mono hF, h3.mono hF⟩
theorem RepPol.len {F : Base} {g : List Value} {x : Pol} (h : RepPol F g x) : g.length = 21 := by
 obtain ⟨va, vc, rfl, -, -⟩ := h; rfl
def SlP (F : Base) (v : Value) (xs : List Pol) : Prop := ∃ gs, SlN 21 F v gs ∧ All2 (RepPol F) gs xs
theorem SlP.mono {F F' : Base} {v : Value} {xs : List Pol} (h : SlP F v xs) (hF : ∀ b o, F b = some o → F' b = some o) : SlP F' v xs := by
 obtain ⟨gs, h1, h2⟩ := h; exact ⟨gs, h1.mono hF, h2.mono fun _ _ => RepPol.mono hF⟩
theorem SlP.nil {F : Base} : SlP F v0 [] := ⟨[], SlN.nil, trivial⟩
instance (priority := 10) Po.z {Ho : Hp} : Po Ho Ho [] [] := ⟨by simp⟩
section
variable {X : List Nat} {F : Base} {w0 : World} {ws : Ws} {l : Value} {f : Nat} {H : Hp} {K : Value → Hp → Prop} {b : Nat} {p : St}
def RpQ (F : Base) (l : Value) (f : Nat) (args : List Value) (b : Nat) (p : St) (r : Value) (p' : St) : Prop := ∀ F' : Base, (∀ b o, F b = some o → F' b = some o) → F' b = none → Rp1 F' l f args b p r p'
theorem CallE.rpq {args : List Value} {r : Value} {p' : St} {Hl G : Hp} {o : Obj} [sp : Sp b H o Hl G] (h : RpQ F l f args b p r p') (ho : o = RdP l p) (sd : Side F b Hl G) (hk : K r ((b, RdP l p') :: (Hl ++ G))) :
  @CallE Tryz.prog X F w0 f (.pointer (some ⟨b, 0, none⟩) :: args).toArray H ⟨K⟩ := by
 obtain ⟨h1, h2, h3, -, -, -⟩ := sd
 subst ho
 have h4 : ∀ e ∈ Hl ++ G, e.1 ≠ b := fun e he => (List.mem_append.1 he).elim (h2.all e) (h3.all e)
 exact CallE.rp1 (Hl ++ G) (h _ le_up (rdObj_nb h1 (Nb.of h4))) sp.mem (fun e he => (List.mem_append.1 he).elim (sp.sub e) (sp.subG e)) h4 hk
theorem CallE.musts {bz T : Nat} {ts : List Str} {Hl G : Hp} {o : Obj} [sp : Sp b H o Hl G] (hW : HasW F ws l) (hE : EndW ws) (hp : 0 ≤ p.p) (hl : ts.length ≤ 9223372036854775807) (hx : ∀ x ∈ ts, x.length ≤ 9223372036854775807) (ho : o = RdP l p) (sd : Side F b Hl G) (hz : F bz = none) (nz : Nb bz H)
  (hk : K (.tuple #[]) ((b, RdP l (mustsS ws p ts)) :: (Hl ++ G))) :
  @CallE Tryz.prog X F w0 40 #[.pointer (some ⟨b, 0, none⟩), .slice (some ⟨bz, 0, none⟩) ts.length ts.length] ((bz, .cells (ts.map fun x => Value.string (bs x)).toArray T (0, 0)) :: H) ⟨K⟩ := by
 obtain ⟨h1, h2, h3, -, -, -⟩ := sd
 subst ho
 have nb : bz ≠ b := fun e => nz.all _ sp.mem e.symm
 have h4 : ∀ e ∈ Hl ++ G, e.1 ≠ b := fun e he => (List.mem_append.1 he).elim (h2.all e) (h3.all e)
 have h5 : ∀ e ∈ (bz, Obj.cells (ts.map fun x => Value.string (bs x)).toArray T (0, 0)) :: (Hl ++ G), e.1 ≠ b := all_cons nb h4
 refine CallG.shr (K := fun v H' => v = .tuple #[] ∧ H' = (b, RdP l (mustsS ws p ts)) :: (bz, .cells (ts.map fun x => Value.string (bs x)).toArray T (0, 0)) :: (Hl ++ G)) ?_ ?_
 ·refine CallE.rp1 ((bz, .cells (ts.map fun x => Value.string (bs x)).toArray T (0, 0)) :: (Hl ++ G)) (pmust_rd _ (ts := ts) (hW.mono le_up) hE (rdObj_none h1 h5) hp (slsN (rdObj_hd hz) hl hx)) (List.mem_cons_of_mem _ sp.mem) ?_ h5 ⟨rfl, rfl⟩
  intro e he
  rcases List.mem_cons.1 he with rfl | he
  ·exact List.mem_cons_self
  ·exact List.mem_cons_of_mem _ ((List.mem_append.1 he).elim (sp.sub e) (sp.subG e))
 ·rintro v H' ⟨rfl, rfl⟩
  exact ⟨_, fun e he => by rcases List.mem_cons.1 he with rfl | he <;> simp [*], hk⟩
theorem CallE.must1 {bz T : Nat} {t : Str} {Hl G : Hp} {o : Obj} [sp : Sp b H o Hl G] (hW : HasW F ws l) (hE : EndW ws) (hp : 0 ≤ p.p) (hx : t.length ≤ 9223372036854775807) (ho : o = RdP l p) (sd : Side F b Hl G) (hz : F bz = none) (nz : Nb bz H)
  (hk : K (.tuple #[]) ((b, RdP l (mustS ws p t)) :: (Hl ++ G))) :
  @CallE Tryz.prog X F w0 40 #[.pointer (some ⟨b, 0, none⟩), .slice (some ⟨bz, 0, none⟩) 1 1] ((bz, .cells #[.string (bs t)] T (0, 0)) :: H) ⟨K⟩ :=
 CallE.musts (ts := [t]) hW hE hp (by simp) (by simpa using hx) ho sd hz nz hk
end
section
variable {F : Base} {ws : Ws} {l : Value} {b : Nat} {p : St}
theorem pfail_q (p : St) (e a : Int) : RpQ F l 69 [.int .i64 e, .int .i64 a] b p (.tuple #[]) (failA p e a) := fun F' hF hb => pfail_rd F' hb p e a
end
section
variable {ws : Ws}
theorem Fwd.uidP {s : St} : Fwd 0 s (uidP ws s).2 := by
 unfold Go.Proofs.YtoelfmmfjebabaaGreatDoor.uidP
 split
 ·rename_i he
  split
  ·rename_i h0
   intro _
   refine ⟨he, ?_, rfl⟩
   unfold uidR at h0 ⊢
   by_cases h : (uidS ws (st0 s.p)).2.e = 0
   ·rw [if_pos h]
    have := (Fwd.uid h).2.1
    simp only [st0] at this ⊢
    omega
   ·rw [if_neg h] at h0; exact absurd h0 h
  ·rename_i h0; intro h; exact absurd h h0
 ·exact Fwd.refl
theorem uidP_p {s : St} (h : 0 ≤ s.p) : 0 ≤ (uidP ws s).2.p := by
 unfold uidP
 split
 ·split
  ·rename_i he h0
   show 0 ≤ (uidR ws s.p).2.1
   unfold uidR at h0 ⊢
   by_cases h' : (uidS ws (st0 s.p)).2.e = 0
   ·rw [if_pos h']
    have := (Fwd.uid h').2.1
    simp only [st0] at this ⊢
    omega
   ·rw [if_neg h'] at h0; exact absurd h0 h'
  ·exact h
 ·exact h
end
end Go.Proofs.YtoelfmmfjebabaaGreatDoor
namespace Go.Proofs.YtoelfmmfjebabaaGreatDoor
open Go Go.Eng
set_option maxHeartbeats 1000000
set_option linter.unusedSimpArgs false
set_option linter.unusedVariables false
set_option maxRecDepth 20000
def ActQ (x : Scp) (F : Base) (r : Value) : Prop := ∃ va, r = scV x va ∧ SlU F va x.list
theorem ActQ.mono (x : Scp) (F F' : Base) (r : Value) (hF : ∀ b o, F b = some o → F' b = some o) (h : ActQ x F r) : ActQ x F' r := by
 obtain ⟨va, h1, h2⟩ := h; exact ⟨va, h1, h2.mono hF⟩
structure AcS where
 n : Nat
 s : St
 us : List (Str × Str)
 v : Value
 Ho : Hp
structure AcOk (F : Base) (ws : Ws) (b b2 b3 : Nat) (X : List (Str × Str) × St) (y : AcS) : Prop where
 X : uidsF ws y.n y.s y.us = X
 n : (ws.length : Int) - y.s.p < y.n
 p0 : 0 ≤ y.s.p
 p1 : y.s.p ≤ ws.length
 us : y.us.length ≤ y.s.p.toNat
 o : OwnS F 2 24 (y.us.map uidC).flatten y.us.length y.v y.Ho
 nb : Nb b y.Ho
 n2 : Nb b2 y.Ho
 n3 : Nb b3 y.Ho
end Go.Proofs.YtoelfmmfjebabaaGreatDoor
namespace Go.Proofs.YtoelfmmfjebabaaGreatDoor
open Go Go.Eng
set_option maxHeartbeats 1000000
set_option linter.unusedSimpArgs false
set_option linter.unusedVariables false
set_option maxRecDepth 20000
abbrev PolO (x : Pol) (va vc : Value) : Obj := .cells #[.string (bs x.id), .bool x.permit, .int .i64 x.p.kind, .string (bs x.p.ty), .string (bs x.p.ut), .string (bs x.p.ui), .bool x.p.slot, .slice none 0 0,
  .int .i64 x.a.kind, .string (bs x.a.ty), .string (bs x.a.ut), .string (bs x.a.ui), .bool x.a.slot, va,
  .int .i64 x.r.kind, .string (bs x.r.ty), .string (bs x.r.ut), .string (bs x.r.ui), .bool x.r.slot, .slice none 0 0, vc] 51 (0, 0)
def CnP (F : Base) (l : Value) (b bp : Nat) (va : Value) (y : Pol × St) (r : Value) (H' : Hp) : Prop := r = .tuple #[] ∧ ∃ vc gs Hk G, OwnS F 13 78 gs.flatten gs.length vc Hk ∧ All2 (CondR (rdObj F G)) gs y.1.conds ∧ Nb b Hk ∧ Nb bp Hk ∧ Nb b G ∧ Nb bp G ∧ Dj Hk G ∧ Wk G ∧ H' = (b, RdP l y.2) :: (bp, PolO y.1 va vc) :: (Hk ++ G)
theorem CallE.mk0 {X : List Nat} {F : Base} {w0 : World} {f : Nat} {args : Array Value} {H : Hp} {Q K : Value → Hp → Prop} (h : Does Tryz.prog F f args [] Q) (hk : ∀ v H1, Q v H1 → Dj H H1 → K v (H ++ H1)) : @CallE Tryz.prog X F w0 f args H ⟨K⟩ :=
 CallG.frame (F1 := F) (H0 := []) (Hr := H) h le_up (fun e h => by cases h) (fun e h => h) (fun e' _ e h => by cases h) fun v H' hq _ d _ => hk v H' hq (Dj.iff.2 fun e he e' he' => d e he e' he')
theorem hle_sub {G H : Hp} : HLe G H → ∀ e ∈ G, lk H e.1 = some e.2 := by
 induction G with
 | nil => intro _ e h; cases h
 | cons x r ih =>
  obtain ⟨b, o⟩ := x
  intro h e he
  rcases List.mem_cons.1 he with rfl | he
  ·exact h.1
  ·exact ih h.2 e he
theorem hle_rd {F : Base} {G H : Hp} (h : HLe G H) {b : Nat} {o : Obj} (hb : rdObj F G b = some o) : rdObj F H b = some o := rdObj_sub (hle_sub h) hb
theorem flat13 {F : Base} {gs : List (List Value)} {cs : List (Bool × Ex')} (h : All2 (CondR F) gs cs) : gs.flatten.length = gs.length * 13 := by
 have := All2.all (P := fun g : List Value => g.length = 13) (fun _ _ h => CondR.len h) h
 clear h
 induction gs with
 | nil => rfl
 | cons x r ih => rw [List.flatten_cons, List.length_append, this x List.mem_cons_self, ih fun c hc => this c (List.mem_cons_of_mem _ hc), List.length_cons]; omega
theorem rows1 {F : Base} {H : Hp} {bz T n c : Nat} {cs : List Value} (hF : F bz = none) (h : cs.length = n) : rowsOf F ((bz, .cells cs.toArray T (0, 0)) :: H) n (.slice (some ⟨bz, 0, none⟩) 1 c) = some (1, cs) := by
 rw [rowsOf_sl, cellsAt_O, rdObj_hd hF, cellsO_of, if_pos (by omega), Nat.one_mul, List.drop_zero, List.take_of_length_le (by omega)]
 rfl
structure RdC where
 cs : List Value
 Hx : Hp
 b7 : Nat
set_option maxHeartbeats 4000000 in
theorem pcond_does (F : Base) (hMx : HasMx F) {ws : Ws} (hws : WsOk ws) {l : Value} (hW : HasW F ws l) (hE : EndW ws) (hWE : WsEnd ws) {b bp : Nat} (hbp : b ≠ bp) (hFb : F b = none) (hFp : F bp = none) {s : St} (hp : 0 ≤ s.p) (hI : s.e = 0 → InS ws s) (x : Pol) (va : Value) (wh : Bool) {vc : Value} {gs : List (List Value)} {Hk : Hp}
  (ho : OwnS F 13 78 gs.flatten gs.length vc Hk) (hr : All2 (CondR F) gs x.conds) (n1 : Nb b Hk) (n2 : Nb bp Hk) (hcl : x.conds.length ≤ 70000) (hva : oneCell va = true) :
  Does Tryz.prog F 44 #[.pointer (some ⟨b, 0, none⟩), .pointer (some ⟨bp, 0, none⟩), .bool wh] ((b, RdP l s) :: (bp, PolO x va vc) :: Hk) (CnP F l b bp va (condP ws x wh s)) := by
 obtain ⟨bw, cap, sp, T, fz, rfl, hFw, hc, hm, hne⟩ := id hW
 have hbp' := hbp.symm
 have nf := ho.noF
 have wk := OwnS.sub ho
 obtain ⟨base, capk, hvc, hck⟩ := ho.len_le
 subst hvc
 have hgl : gs.length ≤ 70000 := by have := hr.len; omega
 have f13 := flat13 hr
 have hs1 := mustS_p (ws := ws) (t := [123]) hp
 have hI1 : (mustS ws s [123]).e = 0 → InS ws (mustS ws s [123]) := fun he => ((Inn.must hWE) he).2 (hI (must_e he))
 generalize hY : condP ws x wh s = Y
 unfold condP at hY
 dsimp only at hY
 refine Does.shr (K := fun r H' => r = .tuple #[] ∧ ∃ vc gs Hk G, OwnS F 13 78 gs.flatten gs.length vc Hk ∧ All2 (CondR (rdObj F G)) gs Y.1.conds ∧ Nb b Hk ∧ Nb bp Hk ∧ Nb b G ∧ Nb bp G ∧ Dj Hk G ∧ Wk G ∧ ∀ e ∈ (b, RdP (.slice (some ⟨bw, 0, none⟩) ws.length cap) Y.2) :: (bp, PolO Y.1 va vc) :: (Hk ++ G), e ∈ H') ?_
  fun r H' ⟨h1, vc, gs, Hk, G, a1, a2, a3, a4, a5, a6, a7, a8, a9⟩ => ⟨_, a9, h1, vc, gs, Hk, G, a1, a2, a3, a4, a5, a6, a7, a8, rfl⟩
 refine does_of_svc (args := [.pointer (some ⟨b, 0, none⟩), .pointer (some ⟨bp, 0, none⟩), .bool wh]) mixed Tryz.func44 low44 (Nat.le_of_ble_eq_true rfl) (fun w0 hw0 => ?_)
 clear hFw hc hm hne
 simp only [*, fu44, ↓ZD, ZW, RO, simprocAttr]
 refine NewB.n ?_
 rintro bz hz hFz
 simp only [Nb_cons, Nb_app, Nb_nil] at hz
 simp only [*, ↓ZD, ZW, RO, simprocAttr]
 refine CallE.must1 (p := s) hW hE hp (by decide) rfl (by simp only [*, ↓ZD, ZW, RO, simprocAttr]) hFz (by simp only [*, ↓ZD, ZW, RO, simprocAttr]) ?_
 clear hz hFz
 generalize mustS ws s [123] = s1 at *
 clear hp hI
 by_cases he : s1.e = 0
 ·have hI1 := hI1 he
  have hd : (s1.e != 0) = false := by simpa using he
  rw [if_neg (by simpa using he)] at hY
  replace he : id (s1.e = 0) := he
  simp only [*, ↓ZD, ZW, RO, simprocAttr]
  have hb : rdObj F ((b, RdP (.slice (some ⟨bw, 0, none⟩) ws.length cap) s1) :: (bp, PolO x va (.slice base gs.length capk)) :: Hk) b = some (RdP (.slice (some ⟨bw, 0, none⟩) ws.length cap) s1) := rdObj_hd hFb
  refine CallE.pureH (pword_pure _ (hW.mono le_up) hE hs1 hb) ?_
  clear hb
  simp only [*, wf3, wsz, ↓ZD, ZW, RO, simprocAttr]
  have hin := read_in hWE (i := s1.p) hI1
  have hrd := read_does F hMx hws hW s1.p
  generalize readS ws s1.p = R at *
  obtain ⟨t, k, e, bad⟩ := R
  dsimp only at hin hY
  refine TreeL.cut (α := RdC) (fun y => Ok12 y.cs ∧ RepP (rdObj F y.Hx) y.cs t ∧ Wk y.Hx ∧ F y.b7 = none ∧ Nb b y.Hx ∧ Nb bp y.Hx ∧ Nb y.b7 y.Hx ∧ Nb y.b7 Hk ∧ b ≠ y.b7 ∧ y.b7 ≠ b ∧ bp ≠ y.b7 ∧ y.b7 ≠ bp ∧ Dj Hk y.Hx)
   (fun y => [(0, some (.pointer (some ⟨b, 0, none⟩))), (1, some (.pointer (some ⟨bp, 0, none⟩))), (2, some (.bool wh)), (6, some (.int .i64 (wdAt ws s1.p).2)), (7, some (.pointer (some ⟨y.b7, 0, none⟩))), (8, some (.int .i64 k)), (9, some (.int .i64 e)), (10, some (.int .i64 bad))])
   (fun y => (y.b7, .cells y.cs.toArray 31 (0, 0)) :: (b, RdP (.slice (some ⟨bw, 0, none⟩) ws.length cap) s1) :: (bp, PolO x va (.slice base gs.length capk)) :: (Hk ++ y.Hx)) ?_ ?_
  ·simp only [*, ↓ZD, ZW, RO, simprocAttr]
   refine ⟨?_, ?_⟩
   ·refine CallE.mk0 hrd ?_
    rintro v Hx ⟨cs, rfl, hc, hr2, hw2⟩ hd2
    simp only [Dj_cons] at hd2
    have cok := hc.2.1
    simp only [*, ↓ZD, ZW, RO, simprocAttr]
    refine NewB.n ?_
    intro b7 h7 hF7
    simp only [Nb_cons, Nb_app, Nb_nil] at h7
    simp only [*, ↓ZD, ZW, RO, simprocAttr]
    exact CutK.on ⟨cs, Hx, b7⟩ ⟨hc, hr2, hw2, hF7, by simp only [*, ↓ZD, ZW, RO, simprocAttr], by simp only [*, ↓ZD, ZW, RO, simprocAttr], by simp only [*, ↓ZD, ZW, RO, simprocAttr], by simp only [*, ↓ZD, ZW, RO, simprocAttr], by simp only [*, ↓ZD, ZW, RO, simprocAttr], by simp only [*, ↓ZD, ZW, RO, simprocAttr], by simp only [*, ↓ZD, ZW, RO, simprocAttr], by simp only [*, ↓ZD, ZW, RO, simprocAttr], by simp only [*, ↓ZD, ZW, RO, simprocAttr]⟩ (by simp only [*, ↓ZD, ZW, RO, simprocAttr]) (by simp only [*, ↓ZD, ZW, RO, simprocAttr])
   ·refine NewB.n ?_
    intro b7 h7 hF7
    simp only [Nb_cons, Nb_app, Nb_nil] at h7
    simp only [*, ↓ZD, ZW, RO, simprocAttr]
    refine CallE.mk0 hrd ?_
    rintro v Hx ⟨cs, rfl, hc, hr2, hw2⟩ hd2
    simp only [Dj_cons] at hd2
    have cok := hc.2.1
    simp only [*, ↓ZD, ZW, RO, simprocAttr]
    exact CutK.on ⟨cs, Hx, b7⟩ ⟨hc, hr2, hw2, hF7, by simp only [*, ↓ZD, ZW, RO, simprocAttr], by simp only [*, ↓ZD, ZW, RO, simprocAttr], by simp only [*, ↓ZD, ZW, RO, simprocAttr], by simp only [*, ↓ZD, ZW, RO, simprocAttr], by simp only [*, ↓ZD, ZW, RO, simprocAttr], by simp only [*, ↓ZD, ZW, RO, simprocAttr], by simp only [*, ↓ZD, ZW, RO, simprocAttr], by simp only [*, ↓ZD, ZW, RO, simprocAttr], by simp only [*, ↓ZD, ZW, RO, simprocAttr]⟩ (by simp only [*, ↓ZD, ZW, RO, simprocAttr]) (by simp only [*, ↓ZD, ZW, RO, simprocAttr])
  ·rintro ⟨cs, Hx, b7⟩ ⟨hc, hr2, hw2, hF7, x1, x2, x3, x4, x5, x6, x7, x8, x9⟩
   dsimp only at hc hr2 hw2 hF7 x1 x2 x3 x4 x5 x6 x7 x8 x9 ⊢
   clear hrd
   have x9' := x9.symm
   have hal : ∀ v ∈ Value.bool wh :: cs, oneCell v = true := by
    have := hc.2.1
    simp only [Bool.and_eq_true, List.all_eq_true] at this
    intro v hv
    rcases List.mem_cons.1 hv with rfl | hv
    ·rfl
    ·exact this.1 v hv
   have cok := hc.2.1
   simp only [*, ↓ZD, ZW, RO, simprocAttr]
   refine ⟨fun h => ?_, fun h => ?_⟩
   ·have he2 : e ≠ 0 := by simpa using h
    rw [if_pos he2] at hY
    refine CallE.rpq (pfail_q s1 e bad) rfl (by simp only [*, ↓ZD, ZW, RO, simprocAttr]) ?_
    rw [show failA s1 e bad = ⟨s1.p, s1.deep, e, bad⟩ from if_pos he]
    subst hY
    simp only [*, ↓ZD, ZW, RO, simprocAttr]
    exact ⟨_, gs, Hk, [], ho, hr.mono fun _ _ => CondR.mono le_up, n1, n2, trivial, trivial, Dj_z.mpr trivial, Wk.nil, by simp +contextual⟩
   ·have he2 : e = 0 := by simpa using h
    rw [if_neg (by simpa using he2)] at hY
    obtain ⟨i1, i2, i3⟩ := hin he2
    clear hin
    have h2 := mustS_p (ws := ws) (p := ⟨k, s1.deep, s1.e, s1.bad⟩) (t := [125]) i1
    refine NewB.n ?_
    rintro bz hz hFz
    simp only [Nb_cons, Nb_app, Nb_nil] at hz
    simp only [*, ↓ZD, ZW, RO, simprocAttr]
    refine CallE.must1 (p := (⟨k, s1.deep, s1.e, s1.bad⟩ : St)) hW hE i1 (by decide) rfl (by simp only [*, ↓ZD, ZW, RO, simprocAttr]) hFz (by simp only [*, ↓ZD, ZW, RO, simprocAttr]) ?_
    clear hz hFz
    generalize mustS ws ⟨k, s1.deep, s1.e, s1.bad⟩ [125] = s2 at *
    have hlen := hws.1
    simp only [*, ↓ZD, ZW, RO, simprocAttr]
    refine CallE.pureH (dep_pure _ (hr2.mono fun _ _ h => hle_rd (by simp only [*, ↓ZD, ZW, RO, simprocAttr]) h).toX (by omega)) ?_
    by_cases hdp : 50 < depX t
    ·have hdd : decide ((50 : Int) < (depX t : Int)) = true := by simp; omega
     rw [if_pos hdp] at hY
     simp only [*, ↓ZD, ZW, RO, simprocAttr]
     refine CallE.rpq (pfail_q s2 11 _) rfl (by simp only [*, ↓ZD, ZW, RO, simprocAttr]) ?_
     generalize failA s2 11 (wdAt ws s1.p).2 = s3 at *
     simp only [*, ↓ZD, ZW, RO, simprocAttr]
     have hrX : RepX (rdObj F ((b, RdP (.slice (some ⟨bw, 0, none⟩) ws.length cap) s3) :: (b7, .cells cs.toArray 31 (0, 0)) :: (bp, PolO x va (.slice base gs.length capk)) :: (Hk ++ Hx))) cs t := (hr2.mono fun _ _ h => hle_rd (by simp only [*, ↓ZD, ZW, RO, simprocAttr]) h).toX
     refine CallQ.of _ (fun _ => slots_pure _ prN hrX) ?_
     simp only [*, ↓ZD, ZW, RO, simprocAttr]
     refine CallQ.of _ (fun _ => slots_pure _ reN hrX) ?_
     clear hrX
     simp only [*, ↓ZD, ZW, RO, simprocAttr]
     refine ⟨fun h => ?_, fun h => ?_⟩
     ·rw [if_pos h] at hY
      refine CallE.rpq (pfail_q s3 32 _) rfl (by simp only [*, ↓ZD, ZW, RO, simprocAttr]) ?_
      generalize failA s3 32 (wdAt ws s1.p).2 = s4 at *
      simp only [*, ↓ZD, ZW, RO, simprocAttr]
      refine NewB.n ?_
      intro bz hz hFz
      simp only [Nb_cons, Nb_app, Nb_nil] at hz
      simp only [*, ↓ZD, ZW, RO, simprocAttr]
      refine EfL.more (m := 1) (nw := .bool wh :: cs) ho (by simp only [*, ↓ZD, ZW, RO, simprocAttr]) ?_ (by simp [hc.1]) hal (by simp) (by omega) ?_
      ·exact rows1 hFz (by simp [hc.1])
      intro bk capn sp2 hs hcap hcm hFn h2
      simp only [Nb_cons, Nb_app, Nb_nil] at h2
      simp only [*, ↓ZD, ZW, RO, simprocAttr]
      subst hY
      exact ⟨.slice (some ⟨bk, 0, none⟩) (gs.length + 1) capn, gs ++ [.bool wh :: cs], [(bk, .cells (gs.flatten ++ .bool wh :: cs ++ sp2).toArray 78 (0, 0))], Hx, OwnS.mk sp2 hFn (by simp) (by simp) (by simp only [List.flatten_append, List.length_append, f13, List.flatten_cons, List.flatten_nil, List.append_nil, List.length_cons, List.length_nil, hc.1]; omega) (by simpa using hs) (by simpa using hcap) hcm, (hr.mono fun _ _ => CondR.mono le_up).snoc ⟨cs, rfl, hr2⟩, by simp only [*, ↓ZD, ZW, RO, simprocAttr], by simp only [*, ↓ZD, ZW, RO, simprocAttr], by simp only [*, ↓ZD, ZW, RO, simprocAttr], by simp only [*, ↓ZD, ZW, RO, simprocAttr], by simp only [*, ↓ZD, ZW, RO, simprocAttr], hw2, by simp +contextual⟩
     ·rw [if_neg (by simpa using h)] at hY
      refine NewB.n ?_
      intro bz hz hFz
      simp only [Nb_cons, Nb_app, Nb_nil] at hz
      simp only [*, ↓ZD, ZW, RO, simprocAttr]
      refine EfL.more (m := 1) (nw := .bool wh :: cs) ho (by simp only [*, ↓ZD, ZW, RO, simprocAttr]) ?_ (by simp [hc.1]) hal (by simp) (by omega) ?_
      ·exact rows1 hFz (by simp [hc.1])
      intro bk capn sp2 hs hcap hcm hFn h2
      simp only [Nb_cons, Nb_app, Nb_nil] at h2
      simp only [*, ↓ZD, ZW, RO, simprocAttr]
      subst hY
      exact ⟨.slice (some ⟨bk, 0, none⟩) (gs.length + 1) capn, gs ++ [.bool wh :: cs], [(bk, .cells (gs.flatten ++ .bool wh :: cs ++ sp2).toArray 78 (0, 0))], Hx, OwnS.mk sp2 hFn (by simp) (by simp) (by simp only [List.flatten_append, List.length_append, f13, List.flatten_cons, List.flatten_nil, List.append_nil, List.length_cons, List.length_nil, hc.1]; omega) (by simpa using hs) (by simpa using hcap) hcm, (hr.mono fun _ _ => CondR.mono le_up).snoc ⟨cs, rfl, hr2⟩, by simp only [*, ↓ZD, ZW, RO, simprocAttr], by simp only [*, ↓ZD, ZW, RO, simprocAttr], by simp only [*, ↓ZD, ZW, RO, simprocAttr], by simp only [*, ↓ZD, ZW, RO, simprocAttr], by simp only [*, ↓ZD, ZW, RO, simprocAttr], hw2, by simp +contextual⟩
    ·have hdd : decide ((50 : Int) < (depX t : Int)) = false := by simp; omega
     rw [if_neg hdp] at hY
     simp only [*, ↓ZD, ZW, RO, simprocAttr]
     have hrX : RepX (rdObj F ((b, RdP (.slice (some ⟨bw, 0, none⟩) ws.length cap) s2) :: (b7, .cells cs.toArray 31 (0, 0)) :: (bp, PolO x va (.slice base gs.length capk)) :: (Hk ++ Hx))) cs t := (hr2.mono fun _ _ h => hle_rd (by simp only [*, ↓ZD, ZW, RO, simprocAttr]) h).toX
     refine CallQ.of _ (fun _ => slots_pure _ prN hrX) ?_
     simp only [*, ↓ZD, ZW, RO, simprocAttr]
     refine CallQ.of _ (fun _ => slots_pure _ reN hrX) ?_
     clear hrX
     simp only [*, ↓ZD, ZW, RO, simprocAttr]
     refine ⟨fun h => ?_, fun h => ?_⟩
     ·rw [if_pos h] at hY
      refine CallE.rpq (pfail_q s2 32 _) rfl (by simp only [*, ↓ZD, ZW, RO, simprocAttr]) ?_
      generalize failA s2 32 (wdAt ws s1.p).2 = s4 at *
      simp only [*, ↓ZD, ZW, RO, simprocAttr]
      refine NewB.n ?_
      intro bz hz hFz
      simp only [Nb_cons, Nb_app, Nb_nil] at hz
      simp only [*, ↓ZD, ZW, RO, simprocAttr]
      refine EfL.more (m := 1) (nw := .bool wh :: cs) ho (by simp only [*, ↓ZD, ZW, RO, simprocAttr]) ?_ (by simp [hc.1]) hal (by simp) (by omega) ?_
      ·exact rows1 hFz (by simp [hc.1])
      intro bk capn sp2 hs hcap hcm hFn h2
      simp only [Nb_cons, Nb_app, Nb_nil] at h2
      simp only [*, ↓ZD, ZW, RO, simprocAttr]
      subst hY
      exact ⟨.slice (some ⟨bk, 0, none⟩) (gs.length + 1) capn, gs ++ [.bool wh :: cs], [(bk, .cells (gs.flatten ++ .bool wh :: cs ++ sp2).toArray 78 (0, 0))], Hx, OwnS.mk sp2 hFn (by simp) (by simp) (by simp only [List.flatten_append, List.length_append, f13, List.flatten_cons, List.flatten_nil, List.append_nil, List.length_cons, List.length_nil, hc.1]; omega) (by simpa using hs) (by simpa using hcap) hcm, (hr.mono fun _ _ => CondR.mono le_up).snoc ⟨cs, rfl, hr2⟩, by simp only [*, ↓ZD, ZW, RO, simprocAttr], by simp only [*, ↓ZD, ZW, RO, simprocAttr], by simp only [*, ↓ZD, ZW, RO, simprocAttr], by simp only [*, ↓ZD, ZW, RO, simprocAttr], by simp only [*, ↓ZD, ZW, RO, simprocAttr], hw2, by simp +contextual⟩
     ·rw [if_neg (by simpa using h)] at hY
      refine NewB.n ?_
      intro bz hz hFz
      simp only [Nb_cons, Nb_app, Nb_nil] at hz
      simp only [*, ↓ZD, ZW, RO, simprocAttr]
      refine EfL.more (m := 1) (nw := .bool wh :: cs) ho (by simp only [*, ↓ZD, ZW, RO, simprocAttr]) ?_ (by simp [hc.1]) hal (by simp) (by omega) ?_
      ·exact rows1 hFz (by simp [hc.1])
      intro bk capn sp2 hs hcap hcm hFn h2
      simp only [Nb_cons, Nb_app, Nb_nil] at h2
      simp only [*, ↓ZD, ZW, RO, simprocAttr]
      subst hY
      exact ⟨.slice (some ⟨bk, 0, none⟩) (gs.length + 1) capn, gs ++ [.bool wh :: cs], [(bk, .cells (gs.flatten ++ .bool wh :: cs ++ sp2).toArray 78 (0, 0))], Hx, OwnS.mk sp2 hFn (by simp) (by simp) (by simp only [List.flatten_append, List.length_append, f13, List.flatten_cons, List.flatten_nil, List.append_nil, List.length_cons, List.length_nil, hc.1]; omega) (by simpa using hs) (by simpa using hcap) hcm, (hr.mono fun _ _ => CondR.mono le_up).snoc ⟨cs, rfl, hr2⟩, by simp only [*, ↓ZD, ZW, RO, simprocAttr], by simp only [*, ↓ZD, ZW, RO, simprocAttr], by simp only [*, ↓ZD, ZW, RO, simprocAttr], by simp only [*, ↓ZD, ZW, RO, simprocAttr], by simp only [*, ↓ZD, ZW, RO, simprocAttr], hw2, by simp +contextual⟩
 ·have hd : (s1.e != 0) = true := by simpa using he
  rw [if_pos (by simpa using he)] at hY
  subst hY
  simp only [*, ↓ZD, ZW, RO, simprocAttr]
  exact ⟨_, gs, Hk, [], ho, hr.mono fun _ _ => CondR.mono le_up, n1, n2, trivial, trivial, Dj_z.mpr trivial, Wk.nil, by simp⟩
end Go.Proofs.YtoelfmmfjebabaaGreatDoor
namespace Go.Proofs.YtoelfmmfjebabaaGreatDoor
open Go Go.Eng
set_option maxHeartbeats 1000000
set_option linter.unusedSimpArgs false
set_option linter.unusedVariables false
set_option maxRecDepth 20000
def Go0 (ws : Ws) (s t : St) : Prop := (0 ≤ s.p → 0 ≤ t.p) ∧ (t.e = 0 → s.e = 0 ∧ s.p ≤ t.p ∧ (InS ws s → InS ws t))
section
variable {ws : Ws} (hE : WsEnd ws)
theorem Go0.refl {s : St} : Go0 ws s s := ⟨id, fun h => ⟨h, Int.le_refl _, id⟩⟩
theorem Go0.trans {s t u : St} (h1 : Go0 ws s t) (h2 : Go0 ws t u) : Go0 ws s u :=
 ⟨fun h => h2.1 (h1.1 h), fun h => by
  obtain ⟨a, b, c⟩ := h2.2 h
  obtain ⟨a', b', c'⟩ := h1.2 a
  exact ⟨a', Int.le_trans b' b, fun x => c (c' x)⟩⟩
theorem Go0.fail {s : St} {e : Int} (he : e ≠ 0) : Go0 ws s (failS ws s e) := ⟨failS_p, fun h => absurd h (failS_e he)⟩
theorem failA_e {s : St} {e a : Int} (he : e ≠ 0) : (failA s e a).e ≠ 0 := by
 unfold failA
 split
 ·exact he
 ·assumption
theorem Go0.failA {s : St} {e a : Int} (he : e ≠ 0) : Go0 ws s (failA s e a) := ⟨fun h => by unfold Go.Proofs.YtoelfmmfjebabaaGreatDoor.failA; split <;> exact h, fun h => absurd h (failA_e he)⟩
theorem Go0.of {s t : St} {k : Int} (hp : 0 ≤ s.p → 0 ≤ t.p) (hf : Fwd k s t) (hk : 0 ≤ k) (hi : Inn ws s t) : Go0 ws s t :=
 ⟨hp, fun h => ⟨(hf h).1, by have := (hf h).2.1; omega, (hi h).2⟩⟩
theorem read_ge {i : Int} (h : (readS ws i).2.2.1 = 0) : i ≤ (readS ws i).2.1 := by
 obtain ⟨n, hn⟩ := runG_ex ws .expr (st0 i)
 unfold readS at h ⊢
 generalize runG ws .expr (st0 i) = y at *
 by_cases he : y.2.e = 0
 ·rw [if_pos he]
  have := (G_goes ws n _ _ _ hn he).2.1
  simp only [st0] at this
  show i ≤ y.2.p
  omega
 ·rw [if_neg he] at h; exact absurd h he
theorem condP_conds {x : Pol} {wh : Bool} {s : St} : (condP ws x wh s).1.conds.length ≤ x.conds.length + 1 ∧ (condP ws x wh s).1.a = x.a := by
 unfold condP
 dsimp only
 split
 ·exact ⟨by simp, rfl⟩
 split
 ·exact ⟨by simp, rfl⟩
 ·exact ⟨by simp, rfl⟩
include hE
theorem Go0.adv {s : St} (h : wk ws s ≠ 0) : Go0 ws s (adv s) := .of (fun h => by show 0 ≤ s.p + 1; omega) Fwd.adv (by decide) (.adv hE h)
theorem Go0.is {s : St} {t : Str} (h : isS ws s t = true) : Go0 ws s (Go.Proofs.YtoelfmmfjebabaaGreatDoor.adv s) := .adv hE (is_wk hE h)
theorem Go0.must {s : St} {t : Str} : Go0 ws s (mustS ws s t) := .of mustS_p Fwd.must (by decide) (.must hE)
theorem Go0.take {s : St} {k : Int} (hk : k ≠ 0) : Go0 ws s (takeS ws s k).2 := .of takeS_p Fwd.take (by decide) (.take hE hk)
theorem Go0.path {s : St} : Go0 ws s (pathS ws s).2 := .of pathS_p Fwd.path (by decide) (.path hE)
theorem Go0.uid {s : St} : Go0 ws s (uidP ws s).2 := by
 refine .of uidP_p Fwd.uidP (by decide) ?_
 unfold uidP
 split
 ·rename_i he
  split
  ·rename_i h0
   intro _
   refine ⟨he, fun hi => ?_⟩
   unfold uidR at h0 ⊢
   by_cases h : (uidS ws (st0 s.p)).2.e = 0
   ·rw [if_pos h]
    exact (Inn.uid hE h).2 hi
   ·rw [if_neg h] at h0; exact absurd h0 h
  ·rename_i h0; intro h; exact absurd h h0
 ·exact .refl
theorem Go0.place {s : St} {x : Scp} {nm : Str} : Go0 ws s (placeP ws s x nm).2 := by
 unfold placeP
 split
 ·rename_i h
  dsimp only
  split
  ·exact .adv hE (by have := h.2; omega)
  ·exact ⟨fun hp => by show 0 ≤ (failS ws s 32).p + 1; have := failS_p (ws := ws) (e := 32) hp; omega, fun h => absurd h (failS_e (by decide))⟩
 ·exact .uid hE
theorem Go0.scope {s : St} {nm : Str} : Go0 ws s (scopeP ws s nm).2 := by
 unfold scopeP
 dsimp only
 refine (Go0.must hE (t := nm)).trans ?_
 split
 ·rename_i h; exact (Go0.is hE h).trans (.place hE)
 split
 ·rename_i h; exact (Go0.is hE h).trans (.place hE)
 split
 ·rename_i h
  split
  ·rename_i h2; exact (Go0.is hE h).trans ((Go0.path hE).trans ((Go0.is hE h2).trans (.place hE)))
  ·exact (Go0.is hE h).trans (.path hE)
 ·exact .refl
theorem Go0.cond {x : Pol} {wh : Bool} {s : St} : Go0 ws s (condP ws x wh s).2 := by
 unfold condP
 dsimp only
 refine (Go0.must hE (t := [123])).trans ?_
 generalize mustS ws s [123] = s1
 split
 ·exact .refl
 rename_i he
 split
 ·rename_i h0; exact ⟨id, fun h => absurd h h0⟩
 rename_i h0
 have h0 : (readS ws s1.p).2.2.1 = 0 := by simpa using h0
 have hg := read_ge h0
 have g1 : Go0 ws s1 ⟨(readS ws s1.p).2.1, s1.deep, s1.e, s1.bad⟩ := ⟨fun h => Int.le_trans h hg, fun h => ⟨h, hg, fun hi => by
  obtain ⟨a, b, -⟩ := read_in hE (i := s1.p) hi h0
  exact ⟨a, b⟩⟩⟩
 refine g1.trans ((Go0.must hE (t := [125])).trans ?_)
 generalize mustS ws ⟨(readS ws s1.p).2.1, s1.deep, s1.e, s1.bad⟩ [125] = s2
 have g2 : Go0 ws s2 (if 50 < depX (readS ws s1.p).1 then Go.Proofs.YtoelfmmfjebabaaGreatDoor.failA s2 11 (wdAt ws s1.p).2 else s2) := by
  split
  ·exact Go0.failA (e := 11) (by decide)
  ·exact .refl
 refine g2.trans ?_
 generalize (if 50 < depX (readS ws s1.p).1 then Go.Proofs.YtoelfmmfjebabaaGreatDoor.failA s2 11 (wdAt ws s1.p).2 else s2) = s3
 split
 ·exact Go0.failA (e := 32) (by decide)
 ·exact .refl
theorem Go0.conds : ∀ {n : Nat} {x : Pol} {s : St}, Go0 ws s (condsF ws n x s).2
 | 0, x, s => .refl
 | n + 1, x, s => by
  rw [condsF]
  split
  ·exact .refl
  split
  ·rename_i h; exact (Go0.is hE h).trans ((Go0.cond hE).trans Go0.conds)
  split
  ·rename_i h; exact (Go0.is hE h).trans ((Go0.cond hE).trans Go0.conds)
  ·exact .must hE
theorem Go0.id {n : Int} {s : St} : Go0 ws s (idP ws n s).2 := by
 unfold idP
 split
 ·rename_i h
  exact (Go0.is hE h).trans ((Go0.must hE).trans ((Go0.must hE).trans ((Go0.take hE (by decide)).trans (.must hE))))
 ·exact .refl
end
end Go.Proofs.YtoelfmmfjebabaaGreatDoor
namespace Go.Proofs.YtoelfmmfjebabaaGreatDoor
open Go Go.Eng
set_option maxHeartbeats 1000000
set_option linter.unusedSimpArgs false
set_option linter.unusedVariables false
set_option maxRecDepth 20000
def PolQ (x : Pol) (F : Base) (r : Value) : Prop := ∃ cs, r = .agg cs.toArray ∧ RepPol F cs x
theorem PolQ.mono (x : Pol) (F F' : Base) (r : Value) (hF : ∀ b o, F b = some o → F' b = some o) (h : PolQ x F r) : PolQ x F' r := by
 obtain ⟨cs, h1, h2⟩ := h; exact ⟨cs, h1, h2.mono hF⟩
theorem CallE.cond {X : List Nat} {F : Base} {w0 : World} {ws : Ws} {l : Value} {b bp b4 : Nat} {o4 : Obj} {s : St} {x : Pol} {va vc : Value} {gs : List (List Value)} {Hk G : Hp} {K : Value → Hp → Prop} (wh : Bool) (hMx : HasMx F) (hws : WsOk ws) (hW : HasW F ws l) (hE : EndW ws) (hWE : WsEnd ws)
  (hp : 0 ≤ s.p) (hI : s.e = 0 → InS ws s) (ho : OwnS F 13 78 gs.flatten gs.length vc Hk) (hr : All2 (CondR (rdObj F G)) gs x.conds) (hcl : x.conds.length ≤ 70000) (hva : oneCell va = true) (f1 : F b = none) (f2 : F bp = none) (f3 : F b4 = none)
  (nn : b ≠ bp ∧ b ≠ b4 ∧ bp ≠ b4 ∧ Nb b Hk ∧ Nb bp Hk ∧ Nb b4 Hk ∧ Nb b G ∧ Nb bp G ∧ Nb b4 G ∧ Dj Hk G) (hw : Wk G)
  (hk : ∀ z vc' gs' Hk' G', condP ws x wh s = z → z.1.conds.length ≤ x.conds.length + 1 → z.1.a = x.a → Go0 ws s z.2 → OwnS F 13 78 gs'.flatten gs'.length vc' Hk' → All2 (CondR (rdObj F G')) gs' z.1.conds → (∀ b o, rdObj F G b = some o → rdObj F G' b = some o) → Nb b Hk' ∧ Nb bp Hk' ∧ Nb b4 Hk' ∧ Nb b G' ∧ Nb bp G' ∧ Nb b4 G' ∧ Dj Hk' G' → Wk G' →
   K (.tuple #[]) ((b, RdP l z.2) :: (bp, PolO z.1 va vc') :: (b4, o4) :: (Hk' ++ G'))) :
  @CallE Tryz.prog X F w0 44 #[.pointer (some ⟨b, 0, none⟩), .pointer (some ⟨bp, 0, none⟩), .bool wh] ((b, RdP l s) :: (bp, PolO x va vc) :: (b4, o4) :: (Hk ++ G)) ⟨K⟩ := by
 obtain ⟨q1, q2, q3, q4, q5, q6, q7, q8, q9, q10⟩ := nn
 have nf := ho.noF
 have hoG : OwnS (rdObj F G) 13 78 gs.flatten gs.length vc Hk := ho.mono fun e he => by
  rw [rdObj_own (Nf.iff.1 nf e he)]
  exact lk_none fun e' he' => (Dj.iff.1 q10 e he e' he')
 refine CallG.shr (K := fun v H' => v = .tuple #[] ∧ ∃ vc' gs' Hk' Gx, OwnS F 13 78 gs'.flatten gs'.length vc' Hk' ∧ All2 (CondR (rdObj F (G ++ Gx))) gs' (condP ws x wh s).1.conds ∧ Nb b Hk' ∧ Nb bp Hk' ∧ Nb b Gx ∧ Nb bp Gx ∧ Dj Hk' Gx ∧ Wk Gx ∧ Dj ((b4, o4) :: G) (Hk' ++ Gx) ∧ H' = ((b4, o4) :: G) ++ ((b, RdP l (condP ws x wh s).2) :: (bp, PolO (condP ws x wh s).1 va vc') :: (Hk' ++ Gx)))
  (CallG.frame (F1 := rdObj F G) (H0 := (b, RdP l s) :: (bp, PolO x va vc) :: Hk) (Hr := (b4, o4) :: G) (pcond_does (rdObj F G) (hMx.mono le_up) hws (hW.mono le_up) hE hWE q1 (rdObj_nb f1 q7) (rdObj_nb f2 q8) hp hI x va wh hoG hr q4 q5 hcl hva) ?_ ?_ ?_ ?_ ?_) ?_
 ·exact fun _ _ h => rdObj_tl q9.all h
 ·intro e he
  simp only [List.mem_cons, List.mem_append] at he ⊢
  rcases he with rfl | rfl | he <;> simp [*]
 ·intro e he
  simp only [List.mem_cons, List.mem_append] at he ⊢
  rcases he with rfl | he <;> simp [*]
 ·intro e' he' e he
  simp only [List.mem_cons] at he he'
  rcases he' with rfl | he' <;> rcases he with rfl | rfl | he
  ·exact q2
  ·exact q3
  ·exact q6.all e he
  ·exact (q7.all e' he').symm
  ·exact (q8.all e' he').symm
  ·exact (Dj.iff.1 q10 e he e' he').symm
 ·rintro v H' ⟨rfl, vc', gs', Hk', Gx, a1, a2, a3, a4, a5, a6, a7, a8, rfl⟩ hn hd hu
  refine ⟨rfl, vc', gs', Hk', Gx, a1.mono fun e he => ?_, a2.mono fun _ _ => CondR.mono fun _ _ => rdObj_app, a3, a4, a5, a6, a7, a8, ?_, rfl⟩
  ·exact hn e (List.mem_cons_of_mem _ (List.mem_cons_of_mem _ (List.mem_append_left _ he)))
  ·exact Dj.iff.2 fun e he e' he' => hd e he e' (List.mem_cons_of_mem _ (List.mem_cons_of_mem _ he'))
 ·rintro v H' ⟨rfl, vc', gs', Hk', Gx, a1, a2, a3, a4, a5, a6, a7, a8, a9, rfl⟩
  simp only [Dj_cons, Nb_app, Dj_apr] at a9
  obtain ⟨⟨c1, c3⟩, c2, c4⟩ := a9
  refine ⟨(b, RdP l (condP ws x wh s).2) :: (bp, PolO (condP ws x wh s).1 va vc') :: (b4, o4) :: (Hk' ++ (G ++ Gx)), ?_, hk _ vc' gs' Hk' (G ++ Gx) rfl condP_conds.1 condP_conds.2 (Go0.cond hWE) a1 a2 (fun _ _ => rdObj_app1) ⟨a3, a4, c1, by rw [Nb_app]; exact ⟨q7, a5⟩, by rw [Nb_app]; exact ⟨q8, a6⟩, by rw [Nb_app]; exact ⟨q9, c2⟩, by rw [Dj_apr]; exact ⟨c3.symm, a7⟩⟩ (hw.app a8 fun e he e' he' => Dj.iff.1 c4 e he e' he')⟩
  intro e he
  simp only [List.mem_append, List.mem_cons] at he ⊢
  rcases he with rfl | rfl | rfl | h | h | h <;> simp [*]
structure PcS where
 n : Nat
 x : Pol
 s : St
 vc : Value
 gs : List (List Value)
 Hk : Hp
 G : Hp
structure PcOk (F : Base) (ws : Ws) (s : St) (b b4 b5 : Nat) (va : Value) (Y : Pol × St) (y : PcS) : Prop where
 Y : condsF ws y.n y.x y.s = Y
 n : y.s.e = 0 → (ws.length : Int) - y.s.p < y.n
 g : Go0 ws s y.s
 o : OwnS F 13 78 y.gs.flatten y.gs.length y.vc y.Hk
 r : All2 (CondR (rdObj F y.G)) y.gs y.x.conds
 u : SlU (rdObj F y.G) va y.x.a.list
 c : y.s.e = 0 → y.x.conds.length ≤ y.s.p.toNat
 nn : Nb b y.Hk ∧ Nb b5 y.Hk ∧ Nb b4 y.Hk ∧ Nb b y.G ∧ Nb b5 y.G ∧ Nb b4 y.G ∧ Dj y.Hk y.G
 w : Wk y.G
end Go.Proofs.YtoelfmmfjebabaaGreatDoor
namespace Go.Proofs.YtoelfmmfjebabaaGreatDoor
open Go Go.Eng
set_option maxHeartbeats 1000000
set_option linter.unusedSimpArgs false
set_option linter.unusedVariables false
set_option maxRecDepth 20000
structure PsS where
 n : Nat
 s : St
 l : List Pol
 v : Value
 gs : List (List Value)
 Ho : Hp
 G : Hp
structure PsOk (F : Base) (ws : Ws) (lv : Value) (b bm : Nat) (Y : List Pol × St) (y : PsS) : Prop where
 Y : polsF ws y.n y.l y.s = Y
 n : (ws.length : Int) - y.s.p < y.n
 e : y.s.e = 0
 i : InS ws y.s
 W : HasW (rdObj F y.G) ws lv
 o : OwnS F 21 51 y.gs.flatten y.gs.length y.v y.Ho
 r : All2 (RepPol (rdObj F y.G)) y.gs y.l
 c : y.l.length ≤ y.s.p.toNat
 nn : Nb b y.Ho ∧ Nb bm y.Ho ∧ Nb b y.G ∧ Nb bm y.G ∧ Dj y.Ho y.G
 w : Wk y.G
end Go.Proofs.YtoelfmmfjebabaaGreatDoor
