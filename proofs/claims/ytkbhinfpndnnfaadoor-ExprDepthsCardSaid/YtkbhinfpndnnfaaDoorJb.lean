/- Joined. -/
import Derived.Test.YtkbhinfpndnnfaaDoorJa
set_option linter.unusedSectionVars false
namespace Go.Proofs.YtkbhinfpndnnfaaDoor
open Go Go.Eng
set_option maxHeartbeats 1000000
set_option linter.unusedSimpArgs false
set_option linter.unusedVariables false
set_option maxRecDepth 20000
theorem isL_eq (c : UInt8) : nameB [c] = isL c := by simp [nameB]
theorem xletter_pure (F : Base) (c : UInt8) : PureV Tryd.prog F 22 #[.int .u8 c.toNat] (.bool (isL c)) := by
 refine pureV_of_svc mixed Tryd.func22 low22 (Nat.le_of_ble_eq_true rfl) (fun w0 => ?_)
 simp only [fu22, ↓ZD, ZW, simprocAttr]
 refine NewB.of fun b1 hb1 hF1 => ?_
 simp only [hF1, ↓ZD, ZW, simprocAttr]
 refine CallE.pure (name_pure F [c] (by simp)) ?_
 simp only [isL_eq, ↓ZD, ZW, simprocAttr]
theorem xdigit_pure (F : Base) (c : UInt8) : PureV Tryd.prog F 24 #[.int .u8 c.toNat] (.bool (isD c)) := by
 refine pureV_of_svc mixed Tryd.func24 low24 (Nat.le_of_ble_eq_true rfl) (fun w0 => ?_)
 simp only [fu24, ↓ZD, ZW, simprocAttr]
 rfl
theorem notlf_pure (F : Base) (c : UInt8) : PureV Tryd.prog F 20 #[.int .u8 c.toNat] (.bool ((c.toNat : Int) != 10)) := by
 refine pureV_of_svc mixed Tryd.func20 low20 (Nat.le_of_ble_eq_true rfl) (fun w0 => ?_)
 simp only [fu20, ↓ZD, ZW, simprocAttr]
theorem ld_pure (F : Base) (c : UInt8) : PureV Tryd.prog F 23 #[.int .u8 c.toNat] (.bool (isLD c)) := by
 refine pureV_of_svc mixed Tryd.func23 low23 (Nat.le_of_ble_eq_true rfl) (fun w0 => ?_)
 simp only [fu23, ↓ZD, ZW, simprocAttr]
 refine CallE.pure (xletter_pure F c) ?_
 simp only [↓ZD, ZW, simprocAttr]
 refine CallQ.of _ (fun _ => (xdigit_pure F c).up) ?_
 simp only [↓ZD, ZW, simprocAttr]
 rfl
theorem takeWhile_at {p : UInt8 → Bool} {s : List UInt8} {i : Nat} (hi : i < s.length) (h1 : (s.take i).all p = true) (h2 : p (s.getD i 0) = false) : (s.takeWhile p).length = i := by
 induction s generalizing i with
 | nil => simp at hi
 | cons c r ih =>
  cases i with
  | zero => rw [List.getD_cons_zero] at h2; simp [List.takeWhile_cons, h2]
  | succ i =>
   rw [List.take_succ_cons, List.all_cons, Bool.and_eq_true] at h1
   rw [List.getD_cons_succ] at h2
   rw [List.takeWhile_cons, if_pos h1.1, List.length_cons, ih (by simpa using hi) h1.2 h2]
theorem takeWhile_all {p : UInt8 → Bool} {s : List UInt8} (h : s.all p = true) : s.takeWhile p = s := by
 induction s with
 | nil => rfl
 | cons c r ih =>
  rw [List.all_cons, Bool.and_eq_true] at h
  rw [List.takeWhile_cons, if_pos h.1, ih h.2]
theorem row_pure (F : Base) (s : List UInt8) (fv : Value) (p : UInt8 → Bool) (hs : s.length ≤ 9223372036854775807) (hp : ∀ c, PureF Tryd.prog F fv [.int .u8 c.toNat] (.bool (p c))) :
  PureV Tryd.prog F 19 #[.string (bs s), fv] (.int .i64 (s.takeWhile p).length) := by
 refine pureV_of_svc mixed Tryd.func19 low19 (Nat.le_of_ble_eq_true rfl) (fun w0 => ?_)
 simp only [fu19, ↓ZD, ZW, simprocAttr]
 refine LoopL.inv (fun (i : Nat) => i ≤ s.length ∧ (s.take i).all p = true) (fun i => [(0, some (.string (bs s))), (1, some fv), (5, some (.int .i64 i))]) (fun i => []) (fun i => s.length - i) (0) (⟨Nat.zero_le _, rfl⟩) (by (simp (disch := first | assumption | exact Ne.symm (by assumption) | omega) only [↓ZD, ZW, simprocAttr]; try trivial)) (by (try (simp (disch := first | assumption | exact Ne.symm (by assumption) | omega) only [↓ZD, ZW, simprocAttr]); try trivial)) ?_
 rintro i ⟨hi, ha⟩
 by_cases hlt : i < s.length
 ·have hd : decide ((i : Int) < (s.length : Int)) = true := by simp; omega
  simp only [hd, Int.toNat_natCast, ↓ZD, ZW, simprocAttr]
  refine conj.of (by omega) ?_
  simp only [hd, Int.toNat_natCast, ↓ZD, ZW, simprocAttr]
  refine CallQ.of _ (hp _).up ?_
  simp only [hd, Int.toNat_natCast, ↓ZD, ZW, simprocAttr]
  refine ⟨fun hc => ?_, fun hc => ?_⟩
  ·refine invK.on (i + 1) (⟨by omega, by rw [all_snoc hlt, ha, hc]; rfl⟩) (by omega) (by (simp (disch := first | assumption | exact Ne.symm (by assumption) | omega) only [↓ZD, ZW, simprocAttr]; try trivial)) (by (try (simp (disch := first | assumption | exact Ne.symm (by assumption) | omega) only [↓ZD, ZW, simprocAttr]); try trivial))
  ·rw [takeWhile_at hlt ha hc]
 ·have hd : decide ((i : Int) < (s.length : Int)) = false := by simp; omega
  have : i = s.length := by omega
  subst this
  rw [List.take_length] at ha
  simp only [hd, ↓ZD, ZW, simprocAttr]
  refine CallQ.of (.bool false) trivial ?_
  simp only [hd, ↓ZD, ZW, simprocAttr]
  rw [takeWhile_all ha]
theorem lx_callable_ld : callable Tryd.prog 23 = true := by kernel_rfl
theorem lx_callable_dg : callable Tryd.prog 24 = true := by kernel_rfl
theorem lx_callable_lf : callable Tryd.prog 20 = true := by kernel_rfl
theorem lx_callable_nm : callable Tryd.prog 21 = true := by kernel_rfl
def nameX : List UInt8 → List UInt8
 | [] => []
 | c :: r => if isL c = true then c :: r.takeWhile isLD else []
theorem nameX_eq (s : List UInt8) : nameX s = if ((s == []) || !isL (s.getD 0 0)) = true then [] else s.takeWhile isLD := by
 cases s with
 | nil => rfl
 | cons c r =>
  have e : (c :: r == ([] : List UInt8)) = false := rfl
  rw [nameX, List.getD_cons_zero, e, Bool.false_or]
  cases h : isL c with
  | true => rw [if_pos rfl, if_neg (by simp), List.takeWhile_cons, if_pos (isLD_of h)]
  | false => rw [if_neg (by simp)]; rfl
theorem takeWhile_pre (p : UInt8 → Bool) (s : List UInt8) : s.take (s.takeWhile p).length = s.takeWhile p := by
 induction s with
 | nil => rfl
 | cons c r ih =>
  rw [List.takeWhile_cons]; split
  ·rw [List.length_cons, List.take_succ_cons, ih]
  ·rfl
theorem takeWhile_le (p : UInt8 → Bool) (s : List UInt8) : (s.takeWhile p).length ≤ s.length := by
 rw [← takeWhile_pre p s]; rw [List.length_take]; omega
theorem xname_pure (F : Base) (s : List UInt8) (hs : s.length ≤ 9223372036854775807) : PureV Tryd.prog F 21 #[.string (bs s)] (.string (bs (nameX s))) := by
 refine pureV_of_svc mixed Tryd.func21 low21 (Nat.le_of_ble_eq_true rfl) (fun w0 => ?_)
 rw [nameX_eq]
 simp only [fu21, ↓ZD, ZW, simprocAttr]
 refine conj.of (fun h => by cases s with
  | nil => cases h
  | cons c r => simp only [List.length_cons]; omega) ?_
 simp only [Int.toNat_zero, ↓ZD, ZW, simprocAttr]
 refine CallQ.of _ (fun _ => (xletter_pure F _).up) ?_
 simp only [↓ZD, ZW, simprocAttr]
 refine ⟨fun hc => ?_, fun hc => ?_⟩
 ·rw [if_pos hc]
 ·rw [if_neg (by rw [hc]; simp)]
  have hl := takeWhile_le isLD s
  refine CallE.pure (row_pure F s _ isLD hs fun c => ⟨23, #[], #[], rfl, lx_callable_ld, ld_pure F c⟩) ?_
  simp only [↓ZD, ZW, simprocAttr]
  refine conj.of (by omega) ?_
  simp only [Int.toNat_natCast, takeWhile_pre, ↓ZD, ZW, simprocAttr]
def isB (c : UInt8) : Bool := decide ((0 : Int) ≤ Go.Lib.indexByte [9, 10, 13, 32] c)
def cntB : Nat → List UInt8 → Nat
 | 0, _ => 0
 | _, [] => 0
 | n + 1, c :: r => if isB c = true then cntB n r + 1 else if Go.Lib.hasPrefix (c :: r) [47, 47] = true then
   ((c :: r).takeWhile fun c => ((c.toNat : Int) != 10)).length + cntB n ((c :: r).drop ((c :: r).takeWhile fun c => ((c.toNat : Int) != 10)).length) else 0
theorem has_pure (F : Base) (s p : List UInt8) : PureV Tryd.prog F 18 #[.string (bs s), .string (bs p)] (.bool (Go.Lib.hasPrefix s p)) := by
 refine PureV.of_same fun w => (Tryd.strings_HasPrefix (bs s) (bs p) w).mono ?_
 rintro e w' ⟨rfl, rfl⟩
 exact ⟨rfl, rfl⟩
theorem lf_pos {c : UInt8} {r : List UInt8} (h : Go.Lib.hasPrefix (c :: r) [47, 47] = true) : 1 ≤ ((c :: r).takeWhile fun c => ((c.toNat : Int) != 10)).length := by
 cases r with
 | nil => simp [Go.Lib.hasPrefix, List.isPrefixOf] at h
 | cons d r =>
  simp only [Go.Lib.hasPrefix, List.isPrefixOf, Bool.and_true, Bool.and_eq_true, beq_iff_eq] at h
  rw [← h.1, List.takeWhile_cons, if_pos (by decide)]
  simp
theorem cntB_le : ∀ (n : Nat) (s : List UInt8), cntB n s ≤ s.length
 | 0, s => Nat.zero_le _
 | n + 1, [] => Nat.le_refl _
 | n + 1, c :: r => by
  rw [cntB]
  split
  ·have := cntB_le n r; simp only [List.length_cons]; omega
  ·split
   ·have h1 := cntB_le n ((c :: r).drop ((c :: r).takeWhile fun c => ((c.toNat : Int) != 10)).length)
    have h2 := takeWhile_le (fun c => ((c.toNat : Int) != 10)) (c :: r)
    rw [List.length_drop] at h1; omega
   ·omega
theorem cntB_fuel : ∀ (n m : Nat) (s : List UInt8), s.length ≤ n → n ≤ m → cntB m s = cntB n s
 | 0, m, s, h, _ => by
  have : s = [] := List.eq_nil_of_length_eq_zero (by omega)
  subst this; cases m <;> rfl
 | n + 1, 0, s, _, h => absurd h (by omega)
 | n + 1, m + 1, [], _, _ => rfl
 | n + 1, m + 1, c :: r, h, hm => by
  rw [cntB, cntB]
  split
  ·rw [cntB_fuel n m r (by simpa using h) (by omega)]
  ·split
   ·rename_i hp
    have h2 := lf_pos hp
    rw [cntB_fuel n m _ (by rw [List.length_drop]; simp only [List.length_cons] at h ⊢; omega) (by omega)]
   ·rfl
def blankN (s : List UInt8) : Nat := cntB s.length s
theorem blank_pure (F : Base) (s : List UInt8) (hs : s.length ≤ 1000000000) : PureV Tryd.prog F 13 #[.string (bs s)] (.int .i64 (blankN s)) := by
 refine pureV_of_svc mixed Tryd.func13 low13 (Nat.le_of_ble_eq_true rfl) (fun w0 => ?_)
 simp only [fu13, ↓ZD, ZW, simprocAttr]
 refine LoopL.inv (fun (i : Nat) => i ≤ s.length ∧ blankN s = i + blankN (s.drop i)) (fun i => [(0, some (.string (bs s))), (3, some (.int .i64 i))]) (fun i => []) (fun i => s.length - i) (0) (⟨Nat.zero_le _, by simp⟩) (by (simp (disch := first | assumption | exact Ne.symm (by assumption) | omega) only [↓ZD, ZW, simprocAttr]; try trivial)) (by (try (simp (disch := first | assumption | exact Ne.symm (by assumption) | omega) only [↓ZD, ZW, simprocAttr]); try trivial)) ?_
 rintro i ⟨hi, ha⟩
 by_cases hlt : i < s.length
 ·have hd : decide ((i : Int) < (s.length : Int)) = true := by simp; omega
  have hg : s.getD i 0 = (s.drop i).getD 0 0 := drop_getD (j := 0)
  obtain ⟨c, r, hcr⟩ : ∃ c r, s.drop i = c :: r := by
   rw [List.drop_eq_getElem_cons hlt]; exact ⟨_, _, rfl⟩
  have hlen : (s.drop i).length = s.length - i := List.length_drop
  have hdr : s.drop (i + 1) = r := by rw [← List.drop_drop, hcr]; rfl
  have hb : blankN (c :: r) = if isB c = true then blankN r + 1 else if Go.Lib.hasPrefix (c :: r) [47, 47] = true then
   ((c :: r).takeWhile fun c => ((c.toNat : Int) != 10)).length + blankN ((c :: r).drop ((c :: r).takeWhile fun c => ((c.toNat : Int) != 10)).length) else 0 := by
   show cntB (r.length + 1) (c :: r) = _
   rw [cntB]
   split
   ·rfl
   ·split
    ·rename_i hp
     have h2 := lf_pos hp
     unfold blankN
     rw [cntB_fuel _ r.length _ (Nat.le_refl _) (by rw [List.length_drop]; simp only [List.length_cons]; omega)]
    ·rfl
  rw [hcr] at hlen ha
  rw [hb] at ha
  have hll : ((List.drop i (c :: r)).length = 0 ∨ True) := .inr trivial
  simp only [hd, Int.toNat_natCast, ↓ZD, ZW, simprocAttr]
  refine conj.of (by omega) ?_
  simp only [Int.toNat_natCast, List.take_length, hcr, ↓ZD, ZW, simprocAttr]
  refine conj.of (by omega) ?_
  simp only [↓ZD, ZW, simprocAttr]
  refine CallE.pure (index_pure F [9, 10, 13, 32] c) ?_
  simp only [↓ZD, ZW, simprocAttr]
  refine ⟨fun hc => ?_, fun hc => ?_⟩
  ·rw [if_pos (show isB c = true from hc)] at ha
   refine invK.on (i + 1) (⟨by omega, by rw [hdr]; omega⟩) (by omega) (by (simp (disch := first | assumption | exact Ne.symm (by assumption) | omega) only [↓ZD, ZW, simprocAttr]; try trivial)) (by (try (simp (disch := first | assumption | exact Ne.symm (by assumption) | omega) only [↓ZD, ZW, simprocAttr]); try trivial))
  ·rw [if_neg (by rw [isB, hc]; simp)] at ha
   refine CallE.pure (has_pure F (c :: r) [47, 47]) ?_
   simp only [↓ZD, ZW, simprocAttr]
   refine ⟨fun hp => ?_, fun hp => ?_⟩
   ·rw [if_pos hp] at ha
    have h2 := lf_pos hp
    have h3 := takeWhile_le (fun c => ((c.toNat : Int) != 10)) (c :: r)
    refine CallE.pure (row_pure F (c :: r) _ (fun c => ((c.toNat : Int) != 10)) (by omega) fun c => ⟨20, #[], #[], rfl, lx_callable_lf, notlf_pure F c⟩) ?_
    revert ha h2 h3
    generalize ((c :: r).takeWhile fun c => ((c.toNat : Int) != 10)).length = k
    intro ha h2 h3
    simp only [↓ZD, ZW, simprocAttr]
    refine invK.on (i + k) (⟨by omega, by rw [← List.drop_drop, hcr]; omega⟩) (by omega) (by (simp (disch := first | assumption | exact Ne.symm (by assumption) | omega) only [↓ZD, ZW, simprocAttr]; try trivial)) (by (try (simp (disch := first | assumption | exact Ne.symm (by assumption) | omega) only [↓ZD, ZW, simprocAttr]); try trivial))
   ·rw [if_neg (by rw [hp]; simp)] at ha
    have : blankN s = i := by omega
    rw [this]
 ·have hd : decide ((i : Int) < (s.length : Int)) = false := by simp; omega
  have : i = s.length := by omega
  subst this
  rw [List.drop_length] at ha
  have : blankN s = s.length := ha
  simp only [hd, this, ↓ZD, ZW, simprocAttr]
end Go.Proofs.YtkbhinfpndnnfaaDoor
namespace Go.Proofs.YtkbhinfpndnnfaaDoor
open Go Go.Eng
set_option maxHeartbeats 1000000
set_option linter.unusedSimpArgs false
set_option linter.unusedVariables false
set_option maxRecDepth 20000
def clo : Bool → List UInt8 → Option Nat
 | _, [] => none
 | o, c :: r => if ((c == 34) && !o) = true then some 1 else (clo ((c == 92) && !o) r).map (· + 1)
theorem clo_skip {d : UInt8} {r : List UInt8} : clo true (d :: r) = (clo false r).map (· + 1) := by
 rw [clo]; simp
theorem clo_le : ∀ (r : List UInt8) (o : Bool) (k : Nat), clo o r = some k → k ≤ r.length
 | [], o, k, h => by cases h
 | c :: r, o, k, h => by
  rw [clo] at h
  split at h
  ·injection h with h; subst h; simp
  ·obtain ⟨m, hm, rfl⟩ := Option.map_eq_some_iff.mp h
   have := clo_le r _ m hm
   simp only [List.length_cons]; omega
theorem eqC {c d : UInt8} {n : Int} (h : ((c.toNat : Int) == n) = true) (hd : n = (d.toNat : Int) := by rfl) : c = d := by
 have h : (c.toNat : Int) = n := by simpa using h
 exact UInt8.toNat_inj.mp (by omega)
theorem neC {c d : UInt8} {n : Int} (h : ((c.toNat : Int) == n) = false) (hd : n = (d.toNat : Int) := by rfl) : c ≠ d := by
 have h : ¬ (c.toNat : Int) = n := by simpa using h
 rintro rfl
 omega
def qX (s : List UInt8) : List UInt8 × Nat := match clo false (s.drop 1) with
 | none => ([], 0)
 | some k => match unquote (s.take (k + 1)) with
  | none => ([], 0)
  | some t => (t, k + 1)
theorem quoted_pure (F : Base) (s : List UInt8) (hs : s.length ≤ 1000000000) : PureV Tryd.prog F 26 #[.string (bs s)] (.tuple #[.string (bs (qX s).1), .int .i64 (qX s).2]) := by
 refine pureV_of_svc mixed Tryd.func26 low26 (Nat.le_of_ble_eq_true rfl) (fun w0 => ?_)
 simp only [fu26, ↓ZD, ZW, simprocAttr]
 refine LoopL.inv (fun (n : Nat) => 1 ≤ n ∧ n ≤ s.length + 1 ∧ clo false (s.drop 1) = (clo false (s.drop n)).map (· + (n - 1))) (fun n => [(0, some (.string (bs s))), (4, some (.int .i64 n))]) (fun n => []) (fun n => s.length + 1 - n) (1) (⟨Nat.le_refl _, by omega, by simp⟩) (by (simp (disch := first | assumption | exact Ne.symm (by assumption) | omega) only [↓ZD, ZW, simprocAttr]; try trivial)) (by (try (simp (disch := first | assumption | exact Ne.symm (by assumption) | omega) only [↓ZD, ZW, simprocAttr]); try trivial)) ?_
 rintro n ⟨h1, hi, ha⟩
 by_cases hlt : n < s.length
 ·have hd : decide ((n : Int) < (s.length : Int)) = true := by simp; omega
  obtain ⟨c, r, hcr⟩ : ∃ c r, s.drop n = c :: r := by
   rw [List.drop_eq_getElem_cons hlt]; exact ⟨_, _, rfl⟩
  have hc : s.getD n 0 = c := by rw [show s.getD n 0 = (s.drop n).getD 0 0 from drop_getD (j := 0), hcr]; rfl
  have hdr : s.drop (n + 1) = r := by rw [← List.drop_drop, hcr]; rfl
  have hlen : (s.drop n).length = s.length - n := List.length_drop
  rw [hcr] at ha hlen
  simp only [List.length_cons] at hlen
  rw [clo] at ha
  simp only [hd, Int.toNat_natCast, hc, ↓ZD, ZW, simprocAttr]
  refine conj.of (by omega) ?_
  simp (disch := first | assumption | exact Ne.symm (by assumption) | omega) only [hd, Int.toNat_natCast, hc, ↓ZD, ZW, simprocAttr]
  refine ⟨fun hb => ?_, fun hb => ?_⟩
  ·have hcb : c = 92 := eqC hb
   subst hcb
   rw [if_neg (by decide), show ((92 : UInt8) == 92 && !false) = true from rfl] at ha
   refine invK.on (n + 2) (⟨by omega, by omega, by
    rw [ha, ← List.drop_drop (i := 1) (j := n + 1), hdr]
    cases r with
    | nil => rfl
    | cons d r => rw [clo_skip]; simp only [List.drop_succ_cons, List.drop_zero, Option.map_map]; congr 1; funext z; simp only [Function.comp]; omega⟩) (by omega) (by (simp (disch := first | assumption | exact Ne.symm (by assumption) | omega) only [↓ZD, ZW, simprocAttr]; try trivial)) (by (try (simp (disch := first | assumption | exact Ne.symm (by assumption) | omega) only [↓ZD, ZW, simprocAttr]); try trivial))
  ·refine ⟨fun hq => ?_, fun hq => ?_⟩
   ·have hcb : c = 34 := eqC hq
    subst hcb
    rw [if_pos (by decide)] at ha
    have ha2 : clo false (s.drop 1) = some n := by rw [ha]; simp only [Option.map_some]; congr 1; omega
    have hq : qX s = match unquote (s.take (n + 1)) with | none => ([], 0) | some t => (t, n + 1) := by rw [qX, ha2]
    rw [hq]
    refine conj.of (by omega) ?_
    simp only [Int.toNat_natCast, ↓ZD, ZW, simprocAttr]
    have hn1 : ((n : Int) + 1).toNat = n + 1 := by omega
    simp only [hn1]
    refine CallE.pure (unquote_pure F _ (by rw [List.length_take]; omega)) ?_
    cases hu : unquote (s.take (n + 1)) with
    | none =>
     unfold retU
     simp only [↓ZD, ZW, simprocAttr]
    | some t =>
     unfold retU
     simp (disch := first | assumption | exact Ne.symm (by assumption) | omega) only [↓ZD, ZW, simprocAttr]
     rfl
   ·have hne : ((c == 34) && !false) = false := by
     have : c ≠ 34 := neC hq
     simp [this]
    have hne2 : ((c == 92) && !false) = false := by
     have : c ≠ 92 := neC hb
     simp [this]
    rw [hne, hne2, if_neg (by simp)] at ha
    refine invK.on (n + 1) (⟨by omega, by omega, by rw [ha, hdr, Option.map_map]; congr 1; funext z; simp only [Function.comp]; omega⟩) (by omega) (by (simp (disch := first | assumption | exact Ne.symm (by assumption) | omega) only [↓ZD, ZW, simprocAttr]; try trivial)) (by (try (simp (disch := first | assumption | exact Ne.symm (by assumption) | omega) only [↓ZD, ZW, simprocAttr]); try trivial))
 ·have hd : decide ((n : Int) < (s.length : Int)) = false := by simp; omega
  rw [List.drop_eq_nil_of_le (by omega : s.length ≤ n)] at ha
  have : qX s = ([], 0) := by rw [qX, ha]; rfl
  rw [this]
  simp only [hd, ↓ZD, ZW, simprocAttr]
end Go.Proofs.YtkbhinfpndnnfaaDoor
namespace Go.Proofs.YtkbhinfpndnnfaaDoor
open Go Go.Eng
set_option maxHeartbeats 1000000
set_option linter.unusedSimpArgs false
set_option linter.unusedVariables false
set_option maxRecDepth 20000
def twosL : List (List UInt8) := [[58, 58], [61, 61], [33, 61], [60, 61], [62, 61], [38, 38], [124, 124]]
def onesL : List UInt8 := [40, 41, 123, 125, 91, 93, 44, 59, 58, 46, 60, 62, 33, 43, 45, 42]
def marksL : List (List UInt8) := twosL ++ onesL.map fun c => [c]
def HasMarks (F : Base) : Prop := ∃ T fz, F 0 = some (.cells (marksL.map fun x => Value.string (bs x)).toArray T fz)
theorem HasMarks.mono {F F' : Base} (h : HasMarks F) (hF : ∀ b o, F b = some o → F' b = some o) : HasMarks F' := by
 obtain ⟨T, fz, h1⟩ := h; exact ⟨T, fz, hF _ _ h1⟩
def markX (s : List UInt8) : List UInt8 := (marksL.find? fun m => Go.Lib.hasPrefix s m).getD []
abbrev Wd := Nat × List UInt8 × Int
def oneX (s : List UInt8) : Wd × Nat × Int :=
 if isL (s.getD 0 0) = true then ((1, nameX s, 0), (nameX s).length, 0)
 else if isD (s.getD 0 0) = true then ((2, s.takeWhile isD, (readD false (s.takeWhile isD)).1), (s.takeWhile isD).length, (readD false (s.takeWhile isD)).2)
 else if s.getD 0 0 = 34 then ((3, (qX s).1, 0), (qX s).2, 0)
 else if s.getD 0 0 = 63 then (if nameX (s.drop 1) = [] then ((0, [], 0), 0, 0) else ((4, nameX (s.drop 1), 0), (nameX (s.drop 1)).length + 1, 0))
 else if s.getD 0 0 = 64 then ((5, [64], 0), 1, 0)
 else if markX s = [] then ((0, [], 0), 0, 0) else ((5, markX s, 0), (markX s).length, 0)
def wdV (w : Wd) (at_ : Nat) : List Value := [.int .i64 w.1, .string (bs w.2.1), .int .i64 w.2.2, .int .i64 at_]
def oneV (x : Wd × Nat × Int) : Value := .tuple #[.agg #[.int .i64 x.1.1, .string (bs x.1.2.1), .int .i64 x.1.2.2, .int .i64 0], .int .i64 x.2.1, .int .i64 x.2.2]
theorem digits_pre {s : List UInt8} : (s.takeWhile isD).head? ≠ some 45 := by
 cases s with
 | nil => simp
 | cons c r =>
  rw [List.takeWhile_cons]; split
  ·rename_i h
   simp only [List.head?_cons, ne_eq, Option.some.injEq]
   rintro rfl; revert h; decide
  ·simp
theorem markX_none {s : List UInt8} (h : ∀ m ∈ marksL, Go.Lib.hasPrefix s m = false) : markX s = [] := by
 unfold markX
 rw [List.find?_eq_none.mpr (fun m hm => by rw [h m hm]; simp)]; rfl
theorem markX_at {s : List UInt8} {i : Nat} (hi : i < marksL.length) (h1 : ∀ m ∈ marksL.take i, Go.Lib.hasPrefix s m = false) (h2 : Go.Lib.hasPrefix s (marksL.getD i []) = true) : markX s = marksL.getD i [] := by
 have hg : marksL.getD i [] = marksL[i] := by rw [List.getD_eq_getElem?_getD, List.getElem?_eq_getElem hi]; rfl
 have e : marksL = marksL.take i ++ marksL[i] :: marksL.drop (i + 1) := by
  rw [← List.drop_eq_getElem_cons hi, List.take_append_drop]
 unfold markX
 rw [e, List.find?_append, List.find?_eq_none.mpr (fun m hm => by rw [h1 m hm]; simp), Option.none_or, List.find?_cons_of_pos (by rw [← hg]; exact h2), ← e, hg]; rfl
theorem getD_str {l : List (List UInt8)} {i : Nat} (h : i < l.length) : ((l.map fun x => Value.string (bs x)).drop i).take 1 = [Value.string (bs (l.getD i []))] := by
 rw [List.drop_eq_getElem_cons (by simpa using h), List.take_succ_cons, List.take_zero, List.getElem_map, List.getD_eq_getElem?_getD, List.getElem?_eq_getElem h]; rfl
theorem getD_arr {l : List (List UInt8)} {i : Nat} {d : Value} (h : i < l.length) : (l.map fun x => Value.string (bs x)).toArray.getD i d = Value.string (bs (l.getD i [])) := by
 have h' : i < (l.map fun x => Value.string (bs x)).length := by simpa using h
 simp only [Array.getD_eq_getD_getElem?, List.getElem?_toArray, List.getElem?_map, List.getElem?_eq_getElem h, Option.map_some, Option.getD_some, List.getD_eq_getElem?_getD]
theorem getD_mem {α : Type} {l : List α} {d : α} {i : Nat} (h : i < l.length) : l.getD i d ∈ l := by
 rw [List.getD_eq_getElem?_getD, List.getElem?_eq_getElem h]; exact List.getElem_mem _
theorem take_snoc' {α : Type} {l : List α} {d : α} {i : Nat} (h : i < l.length) : l.take (i + 1) = l.take i ++ [l.getD i d] := by
 rw [List.take_succ_eq_append_getElem h]; congr; rw [List.getD_eq_getElem?_getD, List.getElem?_eq_getElem h]; rfl
theorem nameX_le (s : List UInt8) : (nameX s).length ≤ s.length := by
 cases s with
 | nil => exact Nat.le_refl _
 | cons c r =>
  have := takeWhile_le isLD r
  rw [nameX]; split
  ·simp only [List.length_cons]; omega
  ·exact Nat.zero_le _
theorem lx_callable_n : callable Tryd.prog 21 = true := by kernel_rfl
theorem lone_pure (F : Base) (hg : HasMarks F) (s : List UInt8) (h0 : 0 < s.length) (hs : s.length ≤ 1000000000) : PureV Tryd.prog F 14 #[.string (bs s)] (oneV (oneX s)) := by
 obtain ⟨T, fz, hM⟩ := hg
 refine pureV_of_svc mixed Tryd.func14 low14 (Nat.le_of_ble_eq_true rfl) (fun w0 => ?_)
 have hld : (List.take 1 s).length = 1 := by rw [List.length_take]; omega
 have hn := takeWhile_le isD s
 unfold oneX
 simp only [fu14, ↓ZD, ZW, simprocAttr]
 refine NewB.of fun b hb hF => ?_
 simp only [hF, ↓ZD, ZW, simprocAttr]
 refine conj.of (by omega) ?_
 simp only [hF, Int.toNat_zero, hld, ↓ZD, ZW, simprocAttr]
 generalize hcc : s.getD 0 0 = c
 refine CallE.pure (xletter_pure F c) ?_
 simp only [hF, ↓ZD, ZW, simprocAttr]
 refine ⟨fun h1 => ?_, fun h1 => ?_⟩
 ·rw [if_pos h1]
  refine CallEF.pure ⟨21, #[], #[], rfl, lx_callable_n, xname_pure F s (by omega)⟩ ?_
  simp only [hF, ↓ZD, ZW, simprocAttr]
  rfl
 rw [if_neg (by rw [h1]; simp)]
 refine CallE.pure (xdigit_pure F c) ?_
 simp only [hF, ↓ZD, ZW, simprocAttr]
 refine ⟨fun h2 => ?_, fun h2 => ?_⟩
 ·rw [if_pos h2]
  refine CallE.pure (row_pure F s _ isD (by omega) fun c => ⟨24, #[], #[], rfl, lx_callable_dg, xdigit_pure F c⟩) ?_
  simp only [hF, ↓ZD, ZW, simprocAttr]
  refine conj.of (by omega) ?_
  simp only [hF, Int.toNat_natCast, takeWhile_pre, ↓ZD, ZW, simprocAttr]
  refine CallE.pure (read_pure F false _ (fun _ => digits_pre) (by omega)) ?_
  unfold pr
  simp only [hF, ↓ZD, ZW, simprocAttr]
  rfl
 rw [if_neg (by rw [h2]; simp)]
 refine ⟨fun h3 => ?_, fun h3 => ?_⟩
 ·rw [if_pos (eqC h3)]
  refine CallE.pure (quoted_pure F s hs) ?_
  simp only [hF, ↓ZD, ZW, simprocAttr]
  rfl
 rw [if_neg (neC h3)]
 refine ⟨fun h4 => ?_, fun h4 => ?_⟩
 ·rw [if_pos (eqC h4)]
  refine conj.of (by omega) ?_
  simp only [hF, ↓ZD, ZW, simprocAttr]
  refine CallEF.pure ⟨21, #[], #[], rfl, lx_callable_n, xname_pure F _ (by rw [List.length_drop, List.length_take]; omega)⟩ ?_
  simp only [hF, Int.toNat_natCast, List.take_length, ↓ZD, ZW, simprocAttr]
  have hnl := takeWhile_le isLD (s.drop 1)
  have hx := nameX_le (s.drop 1)
  have hx2 : (s.drop 1).length = s.length - 1 := List.length_drop
  refine ⟨fun he => ?_, fun he => ?_⟩
  ·rw [if_pos (by simpa using he)]; rfl
  ·rw [if_neg (by simpa using he), in_i64 _ (by omega), Int.add_comm]; rfl
 rw [if_neg (neC h4)]
 refine ⟨fun h5 => ?_, fun h5 => ?_⟩
 ·rw [if_pos (eqC h5)]
  rfl
 rw [if_neg (neC h5)]
 have hmk : marksL.length = 23 := rfl
 have hml : (marksL.map fun x => Value.string (bs x)).length = 23 := rfl
 have hmt : (marksL.map fun x => Value.string (bs x)).take 23 = marksL.map fun x => Value.string (bs x) := rfl
 simp (disch := first | assumption | exact Ne.symm (by assumption) | omega) only [hF, hml, hmt, ↓ZD, ZW, simprocAttr]
 refine LoopL.inv (fun (i : Nat) => i ≤ 23 ∧ ∀ m ∈ marksL.take i, Go.Lib.hasPrefix s m = false) (fun i => [(0, some (.string (bs s))), (2, some (.pointer (some ⟨b, 0, none⟩))), (76, some (.agg (marksL.map fun x => Value.string (bs x)).toArray)), (77, some (.int .i64 i))]) (fun i => [(b, .cells #[.int .i64 0, .string (bs []), .int .i64 0, .int .i64 0] 46 (0, 0))]) (fun i => 23 - i) (0) (⟨Nat.zero_le _, fun m hm => by cases hm⟩) (by (simp (disch := first | assumption | exact Ne.symm (by assumption) | omega) only [↓ZD, ZW, simprocAttr]; try trivial)) (by (try (simp (disch := first | assumption | exact Ne.symm (by assumption) | omega) only [↓ZD, ZW, simprocAttr]); try trivial)) ?_
 rintro i ⟨hi, ha⟩
 by_cases hlt : i < 23
 ·have hd : decide ((i : Int) < 23) = true := by simp; omega
  have hlt2 : i < marksL.length := hmk ▸ hlt
  have hix := getD_arr (d := undef) hlt2
  have hmem := getD_mem (d := []) hlt2
  simp only [hF, hd, Int.toNat_natCast, ↓ZD, ZW, simprocAttr]
  refine conj.of (by rw [hml]; omega) ?_
  simp only [hF, hd, Int.toNat_natCast, Nat.mul_one, hix, ↓ZD, ZW, simprocAttr]
  refine CallE.pure (has_pure F s _) ?_
  simp only [hF, ↓ZD, ZW, simprocAttr]
  refine ⟨fun hp => ?_, fun hp => ?_⟩
  ·have hx := markX_at (s := s) (i := i) hlt2 ha hp
   have hne : marksL.getD i [] ≠ [] := by
    intro e; rw [e] at hmem; revert hmem; decide
   rw [hx, if_neg hne]
   rfl
  ·refine invK.on (i + 1) (⟨by omega, fun m hm => by
    rw [take_snoc' (d := []) hlt2] at hm
    rcases List.mem_append.mp hm with hm | hm
    ·exact ha m hm
    ·rw [List.mem_singleton.mp hm, hp]⟩) (by omega) (by (simp (disch := first | assumption | exact Ne.symm (by assumption) | omega) only [hF, ↓ZD, ZW, simprocAttr]; try trivial)) (by (try (simp (disch := first | assumption | exact Ne.symm (by assumption) | omega) only [hF, ↓ZD, ZW, simprocAttr]); try trivial))
 ·have hd : decide ((i : Int) < 23) = false := by simp; omega
  obtain rfl : i = 23 := by omega
  have : markX s = [] := markX_none ha
  rw [if_pos this]
  simp only [hF, hd, ↓ZD, ZW, simprocAttr]
  rfl
end Go.Proofs.YtkbhinfpndnnfaaDoor
namespace Go.Proofs.YtkbhinfpndnnfaaDoor
open Go Go.Eng
set_option maxHeartbeats 1000000
set_option linter.unusedSimpArgs false
set_option linter.unusedVariables false
set_option maxRecDepth 20000
theorem isB_eq : ∀ c : UInt8, isB c = (((c.toNat : Int) == 32) || ((c.toNat : Int) == 9) || ((c.toNat : Int) == 10) || ((c.toNat : Int) == 13)) := by
 apply all_u8
 decide +kernel
theorem blankN_cons (c : UInt8) (r : List UInt8) : blankN (c :: r) = if isB c = true then blankN r + 1 else if Go.Lib.hasPrefix (c :: r) [47, 47] = true then
   ((c :: r).takeWhile fun c => ((c.toNat : Int) != 10)).length + blankN ((c :: r).drop ((c :: r).takeWhile fun c => ((c.toNat : Int) != 10)).length) else 0 := by
 show cntB (r.length + 1) (c :: r) = _
 rw [cntB]
 split
 ·rfl
 ·split
  ·rename_i hp
   have h2 := lf_pos hp
   unfold blankN
   rw [cntB_fuel _ r.length _ (Nat.le_refl _) (by rw [List.length_drop]; simp only [List.length_cons]; omega)]
  ·rfl
theorem blankN_le (s : List UInt8) : blankN s ≤ s.length := cntB_le _ _
theorem pre2 (s : List UInt8) : Go.Lib.hasPrefix s [47, 47] = (decide (1 < s.length) && ((s.getD 0 0).toNat : Int) == 47 && ((s.getD 1 0).toNat : Int) == 47) := by
 have e : ∀ c : UInt8, ((47 : UInt8) == c) = ((c.toNat : Int) == 47) := by apply all_u8; decide +kernel
 match s with
 | [] => rfl
 | [a] => simp [Go.Lib.hasPrefix, List.isPrefixOf]
 | a :: b :: r => simp [Go.Lib.hasPrefix, List.isPrefixOf, e]
theorem getD_beyond {s : List UInt8} {i : Nat} (h : s.length ≤ i) : s.drop i = [] := List.drop_eq_nil_of_le h
end Go.Proofs.YtkbhinfpndnnfaaDoor
namespace Go.Proofs.YtkbhinfpndnnfaaDoor
open Go Go.Eng
set_option maxHeartbeats 1000000
set_option linter.unusedSimpArgs false
set_option linter.unusedVariables false
set_option maxRecDepth 20000
def mX (s : List UInt8) : List UInt8 := if s.getD 0 0 = 64 then [64] else markX s
def onesR : List UInt8 := [40, 41, 123, 125, 91, 93, 44, 59, 58, 46, 60, 62, 33, 43, 45, 42, 64]
theorem find_ones (c : UInt8) (r : List UInt8) : ∀ l : List UInt8, ((l.map fun x => [x]).find? fun m => Go.Lib.hasPrefix (c :: r) m) = if l.contains c = true then some [c] else none
 | [] => rfl
 | x :: l => by
  rw [List.map_cons, List.find?_cons, List.contains_cons]
  have e : Go.Lib.hasPrefix (c :: r) [x] = (c == x) := by
   show ((x == c) && List.isPrefixOf [] r) = _
   rw [show List.isPrefixOf [] r = true by cases r <;> rfl, Bool.and_true, Bool.eq_iff_iff, beq_iff_eq, beq_iff_eq, eq_comm]
  rw [e]
  cases h : c == x with
  | true => rw [beq_iff_eq.mp h]; rfl
  | false => rw [find_ones c r l]; rfl
theorem find_twos (s : List UInt8) : ∀ l : List (List UInt8), (∀ m ∈ l, m.length = 2) → (l.find? fun m => Go.Lib.hasPrefix s m) = if l.contains (s.take 2) = true then some (s.take 2) else none
 | [], _ => rfl
 | x :: l, h => by
  rw [List.find?_cons, List.contains_cons]
  have hx := h x List.mem_cons_self
  have e : Go.Lib.hasPrefix s x = (s.take 2 == x) := by
   rw [Bool.eq_iff_iff]
   show x.isPrefixOf s = true ↔ _
   rw [List.isPrefixOf_iff_prefix, beq_iff_eq, List.prefix_iff_eq_take, hx, eq_comm]
  rw [e]
  cases h2 : s.take 2 == x with
  | true => rw [beq_iff_eq.mp h2]; rfl
  | false => rw [find_twos s l (fun m hm => h m (List.mem_cons_of_mem _ hm))]; rfl
theorem mX_cons (c : UInt8) (r : List UInt8) : mX (c :: r) = if twosL.contains ((c :: r).take 2) = true then (c :: r).take 2 else if onesR.contains c = true then [c] else [] := by
 unfold mX markX marksL
 rw [List.find?_append, find_ones, find_twos _ _ (by decide), List.getD_cons_zero]
 by_cases hc : c = 64
 ·subst hc
  rw [if_pos rfl, if_neg, if_pos (by decide)]
  intro h
  have h2 : ∀ m ∈ twosL, m.getD 0 0 ≠ 64 := by decide
  have h3 := h2 _ (List.contains_iff_mem.mp h)
  apply h3; cases r <;> rfl
 ·rw [if_neg hc]
  split
  ·rfl
  ·have e : onesR.contains c = onesL.contains c := by
    rw [show onesR = onesL ++ [64] from rfl, List.contains_eq_mem, List.contains_eq_mem, decide_eq_decide]
    simp [hc]
   rw [e]
   split <;> rfl
theorem twos_or (L : List UInt8) : (L == [58, 58] || L == [61, 61] || L == [33, 61] || L == [60, 61] || L == [62, 61] || L == [38, 38] || L == [124, 124]) = twosL.contains L := by
 simp only [twosL, List.contains_cons, List.contains_nil, Bool.or_assoc, Bool.or_false]
end Go.Proofs.YtkbhinfpndnnfaaDoor
namespace Go.Proofs.YtkbhinfpndnnfaaDoor
open Go Go.Eng
set_option maxHeartbeats 1000000
set_option linter.unusedSimpArgs false
set_option linter.unusedVariables false
set_option maxRecDepth 20000
def tok (s : List UInt8) : Except Int (Wd × Nat) :=
 if (oneX s).2.2 ≠ 0 then .error (oneX s).2.2 else if (oneX s).2.1 = 0 then .error 10 else .ok ((oneX s).1, (oneX s).2.1)
def roneV (a : Nat) (t : List UInt8) (x : Int) (d n : Nat) (e : Int) : Value := .tuple #[.agg #[.int .i64 a, .string (bs t), .int .i64 x, .int .i64 d], .int .i64 n, .int .i64 e]
theorem slice_eq {s : List UInt8} {i n : Nat} : (s.take (i + n)).drop i = (s.drop i).take n := by
 rw [List.drop_take, Nat.add_sub_cancel_left]
theorem nameX_take (s : List UInt8) : s.take (nameX s).length = nameX s := by
 cases s with
 | nil => rfl
 | cons c r =>
  rw [nameX]; split
  ·rw [List.length_cons, List.take_succ_cons, takeWhile_pre]
  ·rfl
theorem mX_take (c : UInt8) (r : List UInt8) : (c :: r).take (mX (c :: r)).length = mX (c :: r) := by
 rw [mX_cons]
 split
 ·rw [List.length_take, List.take_eq_take_iff]; simp
 ·split <;> rfl
theorem oneX_mark {s : List UInt8} (h1 : isL (s.getD 0 0) = false) (h2 : isD (s.getD 0 0) = false) (h3 : s.getD 0 0 ≠ 34) (h4 : s.getD 0 0 ≠ 63) :
  oneX s = if mX s = [] then ((0, [], 0), 0, 0) else ((5, mX s, 0), (mX s).length, 0) := by
 unfold oneX mX
 rw [if_neg (by rw [h1]; simp), if_neg (by rw [h2]; simp), if_neg h3, if_neg h4]
 split
 ·rw [if_neg (by simp)]; rfl
 ·rfl
end Go.Proofs.YtkbhinfpndnnfaaDoor
namespace Go.Proofs.YtkbhinfpndnnfaaDoor
open Go Go.Eng
set_option maxHeartbeats 1000000
set_option linter.unusedSimpArgs false
set_option linter.unusedVariables false
set_option maxRecDepth 20000
def w1 : Nat → Nat → List UInt8 → Except (Int × Nat) (List (Wd × Nat))
 | 0, _, _ => .ok []
 | n + 1, at_, s => if s = [] then .ok [((0, [], 0), at_)] else match tok s with
  | .error e => .error (e, at_)
  | .ok (w, m) => match w1 n (at_ + m + blankN (s.drop m)) (s.drop (m + blankN (s.drop m))) with
   | .error x => .error x
   | .ok l => .ok ((w, at_) :: l)
def words (s : List UInt8) : Except (Int × Nat) (List (Wd × Nat)) := w1 (s.length + 1) (blankN s) (s.drop (blankN s))
def cellsW (l : List (Wd × Nat)) : List Value := l.flatMap fun x => wdV x.1 x.2
theorem cellsW_app (l m : List (Wd × Nat)) : cellsW (l ++ m) = cellsW l ++ cellsW m := by simp [cellsW]
theorem cellsW_len (l : List (Wd × Nat)) : (cellsW l).length = l.length * 4 := by
 induction l with
 | nil => rfl
 | cons x l ih => rw [show x :: l = [x] ++ l from rfl, cellsW_app, List.length_append, ih, List.length_append]; simp [cellsW, wdV]; omega
def WordsPost (F : Base) (T : Nat) (s : List UInt8) (r : Value) (Ho : Hp) : Prop :=
 if 65536 < s.length then r = .tuple #[.slice none 0 0, .int .i64 12, .int .i64 0] ∧ Ho = []
 else match words s with
  | .error (e, a) => r = .tuple #[.slice none 0 0, .int .i64 e, .int .i64 a] ∧ Ho = []
  | .ok l => ∃ v, OwnS F 4 T (cellsW l) l.length v Ho ∧ r = .tuple #[v, .int .i64 0, .int .i64 0]
theorem WordsPost.long {F : Base} {T : Nat} {s : List UInt8} (h : 65536 < s.length) : WordsPost F T s (.tuple #[.slice none 0 0, .int .i64 12, .int .i64 0]) [] := by
 unfold WordsPost; rw [if_pos h]; exact ⟨rfl, rfl⟩
theorem WordsPost.err {F : Base} {T : Nat} {s : List UInt8} {e : Int} {a : Nat} (h : s.length ≤ 65536) (hw : words s = .error (e, a)) : WordsPost F T s (.tuple #[.slice none 0 0, .int .i64 e, .int .i64 a]) [] := by
 unfold WordsPost; rw [if_neg (by omega), hw]; exact ⟨rfl, rfl⟩
theorem WordsPost.ok {F : Base} {T : Nat} {s : List UInt8} {l : List (Wd × Nat)} {v : Value} {Ho : Hp} (h : s.length ≤ 65536) (hw : words s = .ok l) (ho : OwnS F 4 T (cellsW l) l.length v Ho) : WordsPost F T s (.tuple #[v, .int .i64 0, .int .i64 0]) Ho := by
 unfold WordsPost; rw [if_neg (by omega), hw]; exact ⟨v, ho, rfl⟩
theorem tok_len {s : List UInt8} {w : Wd} {m : Nat} (h : tok s = .ok (w, m)) : m ≠ 0 := by
 unfold tok at h
 split at h
 ·cases h
 ·split at h
  ·cases h
  ·rename_i h1
   injection h with h; injection h with _ h; exact h ▸ h1
theorem qX_le (s : List UInt8) (h : s ≠ []) : (qX s).2 ≤ s.length := by
 unfold qX
 split
 ·exact Nat.zero_le _
 ·rename_i k hk
  have := clo_le _ _ _ hk
  rw [List.length_drop] at this
  have : 0 < s.length := List.length_pos_iff.mpr h
  split
  ·exact Nat.zero_le _
  ·simp only; omega
theorem oneX_le {s : List UInt8} (h : s ≠ []) : (oneX s).2.1 ≤ s.length := by
 have h0 : 0 < s.length := List.length_pos_iff.mpr h
 unfold oneX
 split
 ·exact nameX_le s
 split
 ·exact takeWhile_le _ _
 split
 ·exact qX_le s h
 split
 ·split
  ·exact Nat.zero_le _
  ·have := nameX_le (s.drop 1)
   rw [List.length_drop] at this
   simp only; omega
 rename_i h4
 split
 ·exact h0
 split
 ·exact Nat.zero_le _
 ·rename_i h5 h6
  obtain ⟨c, r, rfl⟩ : ∃ c r, s = c :: r := by cases s with | nil => exact absurd rfl h | cons c r => exact ⟨c, r, rfl⟩
  have h1 := mX_take c r
  have h2 : mX (c :: r) = markX (c :: r) := by unfold mX; rw [if_neg h5]
  rw [h2] at h1
  simp only
  rw [← h1, List.length_take]; omega
theorem tok_le {s : List UInt8} {w : Wd} {m : Nat} (hs : s ≠ []) (h : tok s = .ok (w, m)) : m ≤ s.length := by
 unfold tok at h
 split at h
 ·cases h
 ·split at h
  ·cases h
  ·injection h with h; injection h with _ h; exact h ▸ oneX_le hs
theorem words_does (F : Base) (hg : HasMarks F) (s : List UInt8) (hs : s.length ≤ 9223372036854775807) :
  Does Tryd.prog F 10 #[.string (bs s)] [] (WordsPost F 46 s) := by
 refine Does.shr (K := fun r H' => ∃ Ho, (∀ e ∈ Ho, e ∈ H') ∧ WordsPost F 46 s r Ho) ?_ (fun r H' ⟨Ho, h1, h2⟩ => ⟨Ho, h1, h2⟩)
 refine does_of_svc mixed Tryd.func10 low10 (Nat.le_of_ble_eq_true rfl) (fun w0 hw0 => ?_)
 simp only [fu10, ↓ZD, ZW, simprocAttr]
 refine ⟨fun h1 => ?_, fun h1 => ?_⟩
 ·have h1 := of_decide_eq_true h1
  exact ⟨[], by simp, .long (by omega)⟩
 have h1 := of_decide_eq_false h1
 have hs2 : s.length ≤ 65536 := by omega
 refine CallE.pure (blank_pure F s (by omega)) ?_
 simp only [↓ZD, ZW, simprocAttr]
 have hb0 := blankN_le s
 refine LoopL.inv (α := Nat × Nat × List (Wd × Nat) × Value × Hp) (fun x => x.2.1 ≤ s.length ∧ s.length < x.2.1 + x.1 ∧ x.2.2.1.length ≤ x.2.1 ∧ (words s = match w1 x.1 x.2.1 (s.drop x.2.1) with | .error z => .error z | .ok l => .ok (x.2.2.1 ++ l)) ∧ OwnS F 4 46 (cellsW x.2.2.1) x.2.2.1.length x.2.2.2.1 x.2.2.2.2)
  (fun x => [(0, some (.string (bs s))), (5, some x.2.2.2.1), (6, some (.int .i64 x.2.1))])
  (fun x => x.2.2.2.2) (fun x => x.1) (s.length + 1, blankN s, [], .slice none 0 0, []) ⟨hb0, by simp only; omega, by simp, by
   show words s = match w1 (s.length + 1) (blankN s) (s.drop (blankN s)) with | .error z => .error z | .ok l => .ok ([] ++ l)
   unfold words
   split <;> simp_all, .nil⟩ (by (simp (disch := first | assumption | exact Ne.symm (by assumption) | omega) only [↓ZD, ZW, simprocAttr]; try trivial)) (by (try (simp (disch := first | assumption | exact Ne.symm (by assumption) | omega) only [↓ZD, ZW, simprocAttr]); try trivial)) ?_
 rintro ⟨n, at_, out, v, Ho⟩ ⟨hi, hn, hl, hu, ho⟩
 simp only at hi hn hl hu ho
 obtain ⟨n, rfl⟩ : ∃ m, n = m + 1 := ⟨n - 1, by omega⟩
 by_cases hlt : at_ < s.length
 ·have hd : ((at_ : Int) == (s.length : Int)) = false := by simp; omega
  have hdl : (s.drop at_).length = s.length - at_ := List.length_drop
  have hne : s.drop at_ ≠ [] := fun e => by rw [e] at hdl; simp at hdl; omega
  rw [w1, if_neg hne] at hu
  simp only [hd, Int.toNat_natCast, List.take_length, ↓ZD, ZW, simprocAttr]
  refine conj.of (by omega) ?_
  simp only [hd, Int.toNat_natCast, List.take_length, ↓ZD, ZW, simprocAttr]
  refine CallE.pure (lone_pure F hg (s.drop at_) (by omega) (by omega)) ?_
  unfold oneV
  simp only [↓ZD, ZW, simprocAttr]
  refine NewB.of fun b hb hF => ?_
  have hup : ∀ o, upd Ho b o = Ho := fun o => upd_new hb
  simp only [hF, hup, ↓ZD, ZW, simprocAttr]
  have hsl : ∀ k, (s.drop at_).drop k = s.drop (at_ + k) := fun k => List.drop_drop
  unfold tok at hu
  refine ⟨fun he => ?_, fun he => ?_⟩
  ·have he : (oneX (s.drop at_)).2.2 ≠ 0 := by simpa using he
   rw [if_pos he] at hu
   exact ⟨[], by simp, .err hs2 hu⟩
  have he : (oneX (s.drop at_)).2.2 = 0 := by simpa using he
  rw [if_neg (by simpa using he)] at hu
  refine ⟨fun hz => ?_, fun hz => ?_⟩
  ·have hz : (oneX (s.drop at_)).2.1 = 0 := by
    have : ((oneX (s.drop at_)).2.1 : Int) = 0 := by simpa using hz
    omega
   rw [if_pos hz] at hu
   exact ⟨[], by simp, .err hs2 hu⟩
  have hz : (oneX (s.drop at_)).2.1 ≠ 0 := by
   have : ¬ ((oneX (s.drop at_)).2.1 : Int) = 0 := by simpa using hz
   omega
  rw [if_neg hz] at hu
  have hol := oneX_le hne
  simp only at hu
  revert hu hol hz
  generalize (oneX (s.drop at_)).2.1 = m
  generalize (oneX (s.drop at_)).1 = w
  intro hu hol hz
  refine NewB.of fun b1 hb1 hF1 => ?_
  simp only [hF, hF1, hup, ↓ZD, ZW, simprocAttr]
  simp only [List.forall_mem_cons] at hb1
  refine EfL.grow (Hr := []) (m := 1) (nw := wdV w at_) ho (ho.lk [_, _] (by simp only [List.forall_mem_cons, List.not_mem_nil, false_implies, implies_true, and_true]; exact ⟨hb1.2, hb⟩)) (by simp) (by simp) ?_ rfl (by simp [oneCell, wdV]) (by simp [wdV]) (by omega) ?_
  ·simp only [hF, hF1, ↓ZD, ZW, simprocAttr]
   rfl
  intro b2 cap sp hs3 hc2 hcm hF2 hne2
  simp (disch := first | assumption | exact Ne.symm (by assumption) | omega) only [hF2, ↓ZD, ZW, simprocAttr]
  refine conj.of (by omega) ?_
  simp (disch := first | assumption | exact Ne.symm (by assumption) | omega) only [hF2, Int.toNat_natCast, List.take_length, ↓ZD, ZW, simprocAttr]
  rw [hsl] at hu
  have e1 : ((at_ : Int) + (m : Int)).toNat = at_ + m := by omega
  have hbl := blankN_le (s.drop (at_ + m))
  rw [List.length_drop] at hbl
  simp only [e1]
  refine CallE.pure (blank_pure F (s.drop (at_ + m)) (by rw [List.length_drop]; omega)) ?_
  simp only [hF2, ↓ZD, ZW, simprocAttr]
  rw [hsl, ← Nat.add_assoc] at hu
  refine invK.on (n, at_ + m + blankN (s.drop (at_ + m)), out ++ [(w, at_)], .slice (some ⟨b2, 0, none⟩) (out.length + 1) cap, [(b2, .cells (cellsW out ++ wdV w at_ ++ sp).toArray 46 (0, 0))]) ⟨?_, ?_, ?_, ?_, OwnS.mk sp hF2 (by rw [cellsW_app]; rfl) (by simp) (by rw [cellsW_len]) (by simpa using hs3) (by simpa using hc2) hcm⟩ (by simp only; omega) (by (simp (disch := first | assumption | exact Ne.symm (by assumption) | omega) only [↓ZD, ZW, simprocAttr]; try trivial)) ?_
  ·simp only; omega
  ·simp only; omega
  ·simp only [List.length_append, List.length_singleton]; omega
  ·rw [hu]
   simp only
   cases w1 n (at_ + m + blankN (s.drop (at_ + m))) (s.drop (at_ + m + blankN (s.drop (at_ + m)))) with
   | error x => rfl
   | ok l => simp only [List.append_assoc, List.cons_append, List.nil_append]
  ·(try (simp (disch := first | assumption | exact Ne.symm (by assumption) | omega) only [↓ZD, ZW, simprocAttr]); try trivial)
 ·have hd : ((at_ : Int) == (s.length : Int)) = true := by simp; omega
  obtain rfl : at_ = s.length := by omega
  rw [List.drop_length, w1, if_pos rfl] at hu
  simp only at hu
  simp only [hd, ↓ZD, ZW, simprocAttr]
  refine NewB.of fun b hb hF => ?_
  simp only [hF, ↓ZD, ZW, simprocAttr]
  refine EfL.grow (Hr := []) (m := 1) (nw := wdV (0, [], 0) s.length) ho (ho.lk [_] (by simp only [List.forall_mem_cons, List.not_mem_nil, false_implies, implies_true, and_true]; exact hb)) (by simp) (by simp) ?_ rfl (by simp [oneCell, wdV]) (by simp [wdV]) (by omega) ?_
  ·simp only [hF, ↓ZD, ZW, simprocAttr]
   rfl
  intro b2 cap sp hs3 hc2 hcm hF2 hne
  simp only [hF2, ↓ZD, ZW, simprocAttr]
  refine ⟨_, fun e he => he, .ok hs2 hu (OwnS.mk sp hF2 (by rw [cellsW_app]; rfl) (by simp) (by rw [cellsW_len]) (by simpa using hs3) (by simpa using hc2) hcm)⟩
end Go.Proofs.YtkbhinfpndnnfaaDoor
namespace Go.Proofs.YtkbhinfpndnnfaaDoor
open Go Go.Eng
set_option maxHeartbeats 1000000
set_option linter.unusedSimpArgs false
set_option linter.unusedVariables false
set_option maxRecDepth 20000
theorem cellsW_at {l : List (Wd × Nat)} {sp : List Value} {i k : Nat} {d : Wd × Nat} (hi : i < l.length) : (cellsW l ++ sp).drop (i * 4 + k) = (wdV (l.getD i d).1 (l.getD i d).2 ++ (cellsW (l.drop (i + 1)) ++ sp)).drop k := by
 have e : cellsW l = cellsW (l.take i) ++ (wdV (l.getD i d).1 (l.getD i d).2 ++ cellsW (l.drop (i + 1))) := by
  have : l = l.take i ++ ([l.getD i d] ++ l.drop (i + 1)) := by
   rw [← List.append_assoc, ← take_snoc' hi, List.take_append_drop]
  conv => lhs; rw [this, cellsW_app, cellsW_app]
  simp [cellsW]
 rw [e, ← List.drop_drop, List.append_assoc, List.drop_left' (by rw [cellsW_len, List.length_take]; omega), List.append_assoc]
inductive RowIn (F : Base) (n : Nat) : List Value → Nat → Value → Prop
 | nil : RowIn F n [] 0 (.slice none 0 0)
 | blk (b cap : Nat) (sp l : List Value) (T : Nat) (fz : Nat × Nat) (len : Nat) (hF : F b = some (.cells (l ++ sp).toArray T fz)) (hc : len ≤ cap) (hm : cap ≤ 9223372036854775807) : RowIn F n l len (.slice (some ⟨b, 0, none⟩) len cap)
theorem OwnS.row {F : Base} {n T : Nat} {l : List Value} {len : Nat} {v : Value} {Ho H : Hp} (h : OwnS F n T l len v Ho) (hH : ∀ e ∈ Ho, lk H e.1 = some e.2) : RowIn (rdObj F H) n l len v := by
 rcases h.out with ⟨rfl, rfl, rfl, rfl⟩ | ⟨b, cap, sp, rfl, rfl, hF, hl, hs, hc, hm⟩
 ·exact .nil
 ·exact .blk b cap sp l T _ len ((rdObj_own hF).trans (hH _ (List.mem_singleton.2 rfl))) hc hm
theorem RowIn.out {F : Base} {n : Nat} {l : List Value} {len : Nat} {v : Value} (h : RowIn F n l len v) : (l = [] ∧ len = 0 ∧ v = .slice none 0 0) ∨ ∃ b cap sp T fz, v = .slice (some ⟨b, 0, none⟩) len cap ∧ F b = some (.cells (l ++ sp).toArray T fz) ∧ len ≤ cap ∧ cap ≤ 9223372036854775807 := by
 cases h with
 | nil => exact .inl ⟨rfl, rfl, rfl⟩
 | blk b cap sp l T fz len hF hc hm => exact .inr ⟨b, cap, sp, T, fz, rfl, hF, hc, hm⟩
end Go.Proofs.YtkbhinfpndnnfaaDoor
namespace Go.Proofs.YtkbhinfpndnnfaaDoor
open Go Go.Eng
set_option maxHeartbeats 1000000
set_option linter.unusedSimpArgs false
set_option linter.unusedVariables false
set_option maxRecDepth 20000
theorem ex1 : words [97, 32, 61, 61, 32, 34, 98, 34] = .ok [((1, [97], 0), 0), ((5, [61, 61], 0), 2), ((3, [98], 0), 5), ((0, [], 0), 8)] := by kernel_rfl
theorem ex2 : words [48, 48, 55] = .error (10, 0) := by kernel_rfl
theorem ex3 : words [63, 120, 32, 47, 47, 32, 121, 10, 32, 49, 50] = .ok [((4, [120], 0), 0), ((2, [49, 50], 12), 9), ((0, [], 0), 11)] := by kernel_rfl
theorem WordsPost.ok_of {F : Base} {T : Nat} {s : List UInt8} {r : Value} {Ho : Hp} {l : List (Wd × Nat)} (h : WordsPost F T s r Ho) (hs : s.length ≤ 65536) (hw : words s = .ok l) : ∃ v, OwnS F 4 T (cellsW l) l.length v Ho ∧ r = .tuple #[v, .int .i64 0, .int .i64 0] := by
 unfold WordsPost at h; rw [if_neg (by omega), hw] at h; exact h
theorem WordsPost.err_of {F : Base} {T : Nat} {s : List UInt8} {r : Value} {Ho : Hp} {e : Int} {a : Nat} (h : WordsPost F T s r Ho) (hs : s.length ≤ 65536) (hw : words s = .error (e, a)) : r = .tuple #[.slice none 0 0, .int .i64 e, .int .i64 a] ∧ Ho = [] := by
 unfold WordsPost at h; rw [if_neg (by omega), hw] at h; exact h
theorem OwnS.lk0 {F : Base} {n T : Nat} {l : List Value} {len : Nat} {v : Value} {Ho : Hp} (h : OwnS F n T l len v Ho) (A : Hp) : ∀ e ∈ Ho, Eng.lk (Ho ++ A) e.1 = some e.2 := by
 intro e he
 rcases h.out with ⟨-, -, -, rfl⟩ | ⟨b, cap, sp, -, rfl, -⟩
 ·cases he
 ·obtain rfl := List.mem_singleton.1 he
  rw [lk_append]; simp [Eng.lk]
end Go.Proofs.YtkbhinfpndnnfaaDoor
namespace Go.Proofs.YtkbhinfpndnnfaaDoor
open Go Go.Eng
set_option maxHeartbeats 1000000
set_option linter.unusedSimpArgs false
set_option linter.unusedVariables false
set_option maxRecDepth 20000
theorem cell_spot {w : World} {x : Addr} {v : Value} (h : w.cell? x = some v) : x.spot = none := by
 unfold World.cell? at h
 cases hs : x.spot with
 | none => rfl
 | some n =>
  cases hb : w.heap[x.block]? with
  | none => rw [hb] at h; cases h
  | some o => rw [hb] at h; cases o <;> simp [hs] at h
theorem ldV_cell {w : World} {x : Addr} {i : Nat} {v v0 : Value} (h0 : w.cell? (x.add 0) = some v0) (h : w.cell? (x.add i) = some v) :
  ∃ b off, some x = some (⟨b, off, none⟩ : Addr) ∧ ∀ H, ldV (fun b => w.heap[b]?) H 1 false (.pointer (some ⟨b, off + i, none⟩)) = some (True, v) := by
 have hsp := cell_spot h0
 obtain ⟨b, off, sp⟩ := x
 obtain rfl : sp = none := by simpa [Addr.add] using hsp
 have ea : (⟨b, off, none⟩ : Addr).add i = ⟨b, off + i, none⟩ := by
  unfold Addr.add; split
  ·rename_i h; subst h; rfl
  ·rfl
 rw [ea] at h
 refine ⟨b, off, rfl, fun H => ?_⟩
 unfold World.cell? at h
 cases hb : w.heap[b]? with
 | none => simp only [hb] at h; cases h
 | some o =>
  simp only [hb] at h
  cases o with
  | cells c T fz =>
   simp only [Option.isSome_none, Bool.false_eq_true, if_false] at h
   rw [ldV_of, cellsAt_O, rdObj_base (o := .cells c T fz) hb]
   obtain ⟨cs⟩ := c
   have hi : off + i < cs.length := by
    have := (Array.getElem?_eq_some_iff.mp h).1
    simpa using this
   have hv : cs[off + i]? = some v := by simpa using h
   have e := cellsO_of (off := off + i) (n := 1) (cs := cs) (T := T) (fz := fz)
   rw [if_pos (by omega)] at e
   show ldC 1 false (cellsO (some (.cells cs.toArray T fz)) (off + i) 1) = _
   rw [e, ldC_one]
   rw [List.drop_eq_getElem_cons hi]
   rw [List.getElem?_eq_getElem hi] at hv
   simp only [List.take_succ_cons, List.getD_cons_zero]
   rw [Option.some.inj hv]
  | _ => cases h
def BytesIn (F : Base) (a : Option Addr) (len : Nat) (g : Nat → Int) : Prop :=
 (∀ i, i < len → 0 ≤ g i ∧ g i < 256) ∧ ∀ i, i < len → ∃ b off, a = some ⟨b, off, none⟩ ∧ ∀ H, ldV F H 1 false (.pointer (some ⟨b, off + i, none⟩)) = some (True, .int .u8 (g i))
theorem lk_suf {A B : Hp} {b : Nat} {o : Obj} (h : lk A b = some o) : lk (A ++ B) b = some o := by
 rw [lk_append, h]
end Go.Proofs.YtkbhinfpndnnfaaDoor
