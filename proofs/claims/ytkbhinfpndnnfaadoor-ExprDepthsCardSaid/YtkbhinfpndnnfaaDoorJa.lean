/- Joined. -/
import Derived.Test.YtkbhinfpndnnfaaDoorLow
import Derived.Test.YtkbhinfpndnnfaaDoorEng16
import Derived.Test.YtkbhinfpndnnfaaDoorShelf
set_option linter.unusedSectionVars false
namespace Go.Proofs.YtkbhinfpndnnfaaDoor
open Go Go.Eng
set_option maxHeartbeats 1000000
set_option linter.unusedSimpArgs false
set_option linter.unusedVariables false
set_option maxRecDepth 20000
def isD (c : UInt8) : Bool := decide ((48 : Int) ≤ c.toNat) && decide ((c.toNat : Int) ≤ 57)
def isL (c : UInt8) : Bool := decide ((97 : Int) ≤ c.toNat) && decide ((c.toNat : Int) ≤ 122) || decide ((65 : Int) ≤ c.toNat) && decide ((c.toNat : Int) ≤ 90) || ((c.toNat : Int) == 95)
def isP (c : UInt8) : Bool := decide ((32 : Int) ≤ c.toNat) && decide ((c.toNat : Int) ≤ 126) && ((c.toNat : Int) != 34) && ((c.toNat : Int) != 92)
def isLD (c : UInt8) : Bool := isL c || isD c
def nameB : List UInt8 → Bool
 | [] => false
 | c :: r => isL c && r.all isLD
theorem isLD_of {c : UInt8} (h : isL c = true) : isLD c = true := by simp [isLD, h]
theorem isL_notD {c : UInt8} (h : isL c = true) : isD c = false := by
 simp only [isL, isD, Bool.or_eq_true, Bool.and_eq_true, decide_eq_true_eq, beq_iff_eq, Bool.and_eq_false_iff, decide_eq_false_iff_not] at h ⊢
 omega
theorem nameB_all {s : List UInt8} : nameB s = (!s.isEmpty && !isD (s.getD 0 0) && s.all isLD) := by
 cases s with
 | nil => rfl
 | cons c r =>
  simp only [nameB, List.isEmpty_cons, Bool.not_false, Bool.true_and, List.getD_cons_zero, List.all_cons]
  cases h : isL c with
  | true => simp [isLD, h, isL_notD h]
  | false => cases h2 : isD c <;> simp [isLD, h, h2]
theorem getD_get {s : List UInt8} {i : Nat} (h : i < s.length) : s[i]? = some (s.getD i 0) := by
 rw [List.getD_eq_getElem?_getD, List.getElem?_eq_getElem h]; rfl
theorem all_not {p : UInt8 → Bool} {s : List UInt8} {i : Nat} (h : i < s.length) (hp : p (s.getD i 0) = false) : s.all p = false := by
 rw [List.all_eq_false]; exact ⟨_, List.mem_of_getElem? (getD_get h), by rw [hp]; simp⟩
theorem take_snocB {s : List UInt8} {i : Nat} (h : i < s.length) : s.take (i + 1) = s.take i ++ [s.getD i 0] := by
 rw [List.take_succ_eq_append_getElem h]; congr; simp [h]
theorem all_snoc {p : UInt8 → Bool} {s : List UInt8} {i : Nat} (h : i < s.length) : (s.take (i + 1)).all p = ((s.take i).all p && p (s.getD i 0)) := by
 rw [take_snocB h, List.all_append]; simp
theorem nameB_snoc {l : List UInt8} {x : UInt8} (h : nameB l = true) : nameB (l ++ [x]) = isLD x := by
 cases l with
 | nil => cases h
 | cons c r =>
  simp only [nameB, List.cons_append, List.all_append, Bool.and_eq_true] at h ⊢
  rw [h.1, h.2]; simp
theorem nameB_bad {s : List UInt8} {i : Nat} (h : i < s.length) (h1 : isL (s.getD i 0) = false) (h2 : i = 0 ∨ isD (s.getD i 0) = false) : nameB s = false := by
 rcases h2 with rfl | h2
 ·cases s with
  | nil => rfl
  | cons c r => rw [List.getD_cons_zero] at h1; simp [nameB, h1]
 ·rw [nameB_all, all_not (p := isLD) h (by simp only [isLD, h1, h2]; rfl), Bool.and_false]
theorem nameB_next {s : List UInt8} {i : Nat} (h : i < s.length) (ha : i = 0 ∨ nameB (s.take i) = true) (hc : isL (s.getD i 0) = true ∨ (i ≠ 0 ∧ isD (s.getD i 0) = true)) : nameB (s.take (i + 1)) = true := by
 rw [take_snocB h]
 rcases ha with rfl | ha
 ·rcases hc with hc | hc
  ·rw [List.take_zero, List.nil_append, nameB, hc]; rfl
  ·exact absurd rfl hc.1
 ·rw [nameB_snoc ha, isLD]
  rcases hc with hc | hc
  ·rw [hc]; rfl
  ·rw [hc.2, Bool.or_true]
theorem letter_pure (F : Base) (c : UInt8) : PureV Tryd.prog F 48 #[.int .u8 c.toNat] (.bool (isL c)) := by
 refine pureV_of_svc mixed Tryd.func48 low48 (Nat.le_of_ble_eq_true rfl) (fun w0 => ?_)
 simp only [fu48, ↓ZD, ZW, simprocAttr]
 rfl
theorem digit_pure (F : Base) (c : UInt8) : PureV Tryd.prog F 49 #[.int .u8 c.toNat] (.bool (isD c)) := by
 refine pureV_of_svc mixed Tryd.func49 low49 (Nat.le_of_ble_eq_true rfl) (fun w0 => ?_)
 simp only [fu49, ↓ZD, ZW, simprocAttr]
 rfl
theorem plain_pure (F : Base) (c : UInt8) : PureV Tryd.prog F 55 #[.int .u8 c.toNat] (.bool (isP c)) := by
 refine pureV_of_svc mixed Tryd.func55 low55 (Nat.le_of_ble_eq_true rfl) (fun w0 => ?_)
 simp only [fu55, ↓ZD, ZW, simprocAttr]
 rfl
theorem name_pure (F : Base) (s : List UInt8) (hs : s.length ≤ 9223372036854775807) : PureV Tryd.prog F 34 #[.string (bs s)] (.bool (nameB s)) := by
 refine pureV_of_svc mixed Tryd.func34 low34 (Nat.le_of_ble_eq_true rfl) (fun w0 => ?_)
 simp only [fu34, ↓ZD, ZW, simprocAttr]
 refine LoopL.inv (α := Nat) (fun i => i ≤ s.length ∧ (i = 0 ∨ nameB (s.take i) = true))
  (fun i => [(0, some (.string (bs s))), (5, some (.int .i64 s.length)), (6, some (.int .i64 i))]) (fun i => []) (fun i => s.length - i) 0 ⟨Nat.zero_le _, .inl rfl⟩ ?_ ?_ ?_
 ·simp only [Le_nil, Le_cons]
  simp only [↓ZD, ZW, simprocAttr]
 ·simp only [HLe_nil]
 ·rintro i ⟨hi, ha⟩
  by_cases hlt : i < s.length
  ·have hd : decide ((i : Int) < (s.length : Int)) = true := by simp; omega
   simp only [hd, Int.toNat_natCast, ↓ZD, ZW, simprocAttr]
   refine conj.of (by omega) ?_
   simp only [hd, Int.toNat_natCast, ↓ZD, ZW, simprocAttr]
   refine CallE.pure (letter_pure F _) ?_
   simp only [hd, Int.toNat_natCast, ↓ZD, ZW, simprocAttr]
   refine conj.of (fun _ => by omega) ?_
   simp only [hd, Int.toNat_natCast, ↓ZD, ZW, simprocAttr]
   refine CallQ.of _ (fun _ => (digit_pure F _).up) ?_
   simp only [hd, Int.toNat_natCast, ↓ZD, ZW, simprocAttr]
   refine ⟨fun hc => ?_, fun hc => ?_⟩
   ·simp only [Bool.and_eq_true, Bool.or_eq_true, Bool.not_eq_true', beq_iff_eq] at hc
    have h2 : i = 0 ∨ isD (s.getD i 0) = false := hc.2.imp (fun h => by omega) id
    rw [nameB_bad hlt hc.1 h2]
   ·simp only [Bool.and_eq_false_iff, Bool.or_eq_false_iff, Bool.not_eq_false', beq_eq_false_iff_ne] at hc
    have h2 := nameB_next hlt ha (hc.imp id fun h => ⟨by omega, h.2⟩)
    refine invK.on (i + 1) (⟨by omega, .inr h2⟩) (by omega) (by (simp (disch := first | assumption | exact Ne.symm (by assumption) | omega) only [↓ZD, ZW, simprocAttr]; try trivial)) (by (try (simp (disch := first | assumption | exact Ne.symm (by assumption) | omega) only [↓ZD, ZW, simprocAttr]); try trivial))
  ·have hd : decide ((i : Int) < (s.length : Int)) = false := by simp; omega
   have : i = s.length := by omega
   subst this
   simp only [hd, ↓ZD, ZW, simprocAttr]
   rw [List.take_length] at ha
   rcases ha with ha | ha
   ·rw [List.eq_nil_of_length_eq_zero ha]; rfl
   ·rw [ha]
    cases s with
    | nil => cases ha
    | cons c r => rfl
end Go.Proofs.YtkbhinfpndnnfaaDoor
namespace Go.Proofs.YtkbhinfpndnnfaaDoor
open Go Go.Eng
set_option maxHeartbeats 1000000
set_option linter.unusedSimpArgs false
set_option linter.unusedVariables false
set_option maxRecDepth 20000
def hexL : List UInt8 := [48, 49, 50, 51, 52, 53, 54, 55, 56, 57, 97, 98, 99, 100, 101, 102]
def q1 (c : UInt8) : List UInt8 := if isP c then [c] else if ((c.toNat : Int) == 34 || (c.toNat : Int) == 92) then [92, c] else [92, 120, hexL.getD (c.toNat / 16) 0, hexL.getD (c.toNat % 16) 0]
def quote (s : List UInt8) : List UInt8 := 34 :: (s.flatMap q1 ++ [34])
theorem q1_len (c : UInt8) : (q1 c).length ≤ 4 := by
 unfold q1
 split
 ·simp
 ·split <;> simp
theorem flat_len : ∀ s : List UInt8, (s.flatMap q1).length ≤ 4 * s.length
 | [] => Nat.le_refl _
 | c :: s => by
  have := flat_len s
  have := q1_len c
  simp only [List.flatMap_cons, List.length_append, List.length_cons]; omega
theorem u8_lt (c : UInt8) : c.toNat < 256 := c.toNat_lt
theorem shr4 (c : UInt8) : ((c.toNat : Int).fdiv 16) = ((c.toNat / 16 : Nat) : Int) := by
 rw [Int.fdiv_eq_ediv_of_nonneg _ (by decide)]; omega
theorem and15 (c : UInt8) : (BitVec.ofInt 8 (c.toNat : Int) &&& 15#8).toNat = c.toNat % 16 := by
 revert c
 have : ∀ n : Nat, n < 256 → (BitVec.ofInt 8 (n : Int) &&& 15#8).toNat = n % 16 := by decide +kernel
 exact fun c => this _ (u8_lt c)
theorem one_pure (F : Base) (c : UInt8) : PureV Tryd.prog F 51 #[.int .u8 c.toNat] (.string (bs (q1 c))) := by
 refine pureV_of_svc mixed Tryd.func51 low51 (Nat.le_of_ble_eq_true rfl) (fun w0 => ?_)
 simp only [fu51, ↓ZD, ZW, simprocAttr]
 refine CallE.pure (plain_pure F c) ?_
 simp only [↓ZD, ZW, simprocAttr]
 unfold q1
 refine ⟨fun hp => ?_, fun hp => ⟨fun hq => ?_, fun hq => ?_⟩⟩
 ·refine NewB.of fun b1 hb1 hF1 => ?_
  simp only [hF1, hp, ↓ZD, ZW, simprocAttr]
 ·refine NewB.of fun b1 hb1 hF1 => ?_
  simp only [hF1, hp, hq, ↓ZD, ZW, simprocAttr]
 ·rw [shr4]
  have h1 := u8_lt c
  refine conj.of (by omega) ?_
  simp (disch := first | assumption | exact Ne.symm (by assumption) | omega) only [and15, ↓ZD, ZW, simprocAttr]
  refine conj.of (by omega) ?_
  simp only [↓ZD, ZW, simprocAttr]
  refine NewB.of fun b1 hb1 hF1 => ?_
  simp only [hF1, hp, hq, Int.toNat_natCast, ↓ZD, ZW, simprocAttr]
  rfl
theorem slice1 {l : List UInt8} {k : Nat} (h : k < l.length) : (l.take (k + 1)).drop k = [l.getD k 0] := by
 rw [take_snocB h, List.drop_left' (by rw [List.length_take]; omega)]
theorem idxOf_at {l : List UInt8} {c : UInt8} {i : Nat} (h1 : ∀ j, j < i → l.getD j 0 ≠ c) (h2 : i < l.length) (h3 : l.getD i 0 = c) : l.idxOf c = i := by
 induction l generalizing i with
 | nil => simp at h2
 | cons x r ih =>
  cases i with
  | zero => rw [List.getD_cons_zero] at h3; simp [List.idxOf_cons, h3]
  | succ i =>
   have h0 := h1 0 (by omega)
   rw [List.getD_cons_zero] at h0
   rw [List.idxOf_cons, ih (i := i) (fun j hj => by have := h1 (j + 1) (by omega); rwa [List.getD_cons_succ] at this) (by simp only [List.length_cons] at h2; omega) (by rwa [List.getD_cons_succ] at h3)]
   have : (x == c) = false := by simpa using h0
   rw [this]; rfl
theorem idxOf_none {l : List UInt8} {c : UInt8} (h1 : ∀ j, j < l.length → l.getD j 0 ≠ c) : l.idxOf c = l.length := by
 apply List.idxOf_eq_length
 intro hc
 obtain ⟨i, hi, rfl⟩ := List.getElem_of_mem hc
 have := h1 i hi
 rw [List.getD_eq_getElem?_getD, List.getElem?_eq_getElem hi] at this
 exact this rfl
theorem flat_snoc {s : List UInt8} {i : Nat} (h : i < s.length) : (s.take (i + 1)).flatMap q1 = (s.take i).flatMap q1 ++ q1 (s.getD i 0) := by
 rw [take_snocB h, List.flatMap_append]; simp
end Go.Proofs.YtkbhinfpndnnfaaDoor
namespace Go.Proofs.YtkbhinfpndnnfaaDoor
open Go Go.Eng
set_option maxHeartbeats 1000000
set_option linter.unusedSimpArgs false
set_option linter.unusedVariables false
set_option maxRecDepth 20000
theorem index_pure (F : Base) (s : List UInt8) (c : UInt8) : PureV Tryd.prog F 17 #[.string (bs s), .int .u8 c.toNat] (.int .i64 (Go.Lib.indexByte s c)) := by
 refine PureV.of_same fun w => (Tryd.strings_IndexByte (bs s) c.toNat w).mono ?_
 rintro e w' ⟨rfl, rfl⟩
 refine ⟨?_, rfl⟩
 have : ((c.toNat : Int).toNat).toUInt8 = c := by simp
 rw [this]; rfl
def hxI (x y : UInt8) : Int := IntKind.u8.wrap (IntKind.i64.wrap ((BitVec.ofInt 64 (IntKind.i64.wrap (Go.Lib.indexByte hexL x * 16)) ||| BitVec.ofInt 64 (Go.Lib.indexByte hexL y)).toNat : Int))
def hx2 (x y : UInt8) : UInt8 := UInt8.ofNat (hxI x y).toNat
theorem hx_eq (x y : UInt8) : IntKind.u8.wrap (IntKind.i64.wrap ((BitVec.ofInt 64 (IntKind.i64.wrap (Go.Lib.indexByte [48, 49, 50, 51, 52, 53, 54, 55, 56, 57, 97, 98, 99, 100, 101, 102] x * 16)) ||| BitVec.ofInt 64 (Go.Lib.indexByte [48, 49, 50, 51, 52, 53, 54, 55, 56, 57, 97, 98, 99, 100, 101, 102] y)).toNat : Int)) = ((hx2 x y).toNat : Int) := by
 show hxI x y = _
 unfold hx2
 have h : 0 ≤ hxI x y ∧ hxI x y < 256 := by unfold hxI; rw [wrap_u8]; omega
 have e : (UInt8.ofNat (hxI x y).toNat).toNat = (hxI x y).toNat := by
  rw [UInt8.toNat_ofNat']; exact Nat.mod_eq_of_lt (by omega)
 rw [e]; omega
def stepU (r : List UInt8) : UInt8 × Nat :=
 if ((((r.getD 0 0).toNat : Int) == 92) && decide ((2 : Int) ≤ r.length)) = true then
  (if ((((r.getD 1 0).toNat : Int) == 120) && decide ((4 : Int) ≤ r.length)) = true then (hx2 (r.getD 2 0) (r.getD 3 0), 4) else (r.getD 1 0, 2))
 else (r.getD 0 0, 1)
theorem stepU_cons (c0 : UInt8) (rest : List UInt8) : stepU (c0 :: rest) = if (((c0.toNat : Int) == 92) && decide ((2 : Int) ≤ ((rest.length + 1 : Nat) : Int))) = true then
  (if ((((rest.getD 0 0).toNat : Int) == 120) && decide ((4 : Int) ≤ ((rest.length + 1 : Nat) : Int))) = true then (hx2 (rest.getD 1 0) (rest.getD 2 0), 4) else (rest.getD 0 0, 2)) else (c0, 1) := rfl
def unqL : Nat → List UInt8 → Option (List UInt8)
 | _, [] => some []
 | 0, _ :: _ => none
 | n + 1, c :: r => if q1 (stepU (c :: r)).1 = (c :: r).take (stepU (c :: r)).2 then (unqL n ((c :: r).drop (stepU (c :: r)).2)).map ((stepU (c :: r)).1 :: ·) else none
def unquote (s : List UInt8) : Option (List UInt8) :=
 if (decide ((s.length : Int) < 2) || ((s.getD 0 0).toNat : Int) != 34 || ((s.getD (s.length - 1) 0).toNat : Int) != 34) = true then none else unqL s.length ((s.take (s.length - 1)).drop 1)
def retU : Option (List UInt8) → Value
 | some l => .tuple #[.string (bs l), .int .i64 0]
 | none => .tuple #[.string (bs []), .int .i64 10]
theorem unquote_pure (F : Base) (s : List UInt8) (hs : s.length ≤ 1000000000000) : PureV Tryd.prog F 39 #[.string (bs s)] (retU (unquote s)) := by
 refine pureV_of_svcW mixed Tryd.func39 low39 (Nat.le_of_ble_eq_true rfl) (fun w0 hw0 => ?_)
 simp only [fu39, ↓ZD, ZW, simprocAttr]
 refine conj.of (fun h => by have := of_decide_eq_false h; omega) ?_
 simp (disch := first | assumption | exact Ne.symm (by assumption) | omega) only [↓ZD, ZW, simprocAttr]
 refine conj.of (fun h => by simp only [Bool.or_eq_false_iff, decide_eq_false_iff_not] at h; omega) ?_
 simp (disch := first | assumption | exact Ne.symm (by assumption) | omega) only [↓ZD, ZW, simprocAttr]
 have e1 : ((s.length : Int) - 1).toNat = s.length - 1 := by omega
 rw [e1]
 unfold unquote
 refine ⟨fun hc => ?_, fun hc => ?_⟩
 ·rw [if_pos hc]; rfl
 have h2 : 2 ≤ s.length := by simp only [Bool.or_eq_false_iff, decide_eq_false_iff_not] at hc; omega
 rw [if_neg (by rw [hc]; simp)]
 refine conj.of (by omega) ?_
 simp only [e1, ↓ZD, ZW, simprocAttr]
 generalize hR : unqL s.length ((s.take (s.length - 1)).drop 1) = R
 have hml : ((s.take (s.length - 1)).drop 1).length ≤ s.length := by simp only [List.length_drop, List.length_take]; omega
 refine LoopL.inv (α := Nat × List UInt8 × List UInt8 × Value × Hp) (fun x => x.2.1.length ≤ x.1 ∧ x.2.2.1.length + x.2.1.length ≤ s.length ∧ (unqL x.1 x.2.1).map (x.2.2.1 ++ ·) = R ∧ OwnS F 1 5 (byteCells x.2.2.1) x.2.2.1.length x.2.2.2.1 x.2.2.2.2)
  (fun x => [(4, some x.2.2.2.1), (5, some (.string (bs x.2.1)))])
  (fun x => x.2.2.2.2) (fun x => x.1) (s.length, (s.take (s.length - 1)).drop 1, [], .slice none 0 0, []) ⟨hml, by simpa using hml, by simpa using hR, .nil⟩ ?_ ?_ ?_
 ·simp only [Le_nil, Le_cons]
  simp only [↓ZD, ZW, simprocAttr]
 ·simp only [HLe_nil]
 rintro ⟨n, rest, out, v, Ho⟩ ⟨hn, hl, hu, ho⟩
 simp only at hn hl hu ho
 cases rest with
 | nil =>
  simp only [↓ZD, ZW, simprocAttr]
  have hu' : R = some out := by rw [← hu]; cases n <;> simp [unqL]
  rw [hu']
  rcases ho.out with ⟨h3, h4, rfl, rfl⟩ | ⟨g, cap, sp, rfl, rfl, hF, hl2, hs', hc2, hcm⟩
  ·have : out = [] := List.eq_nil_of_length_eq_zero h4
   subst this
   simp only [↓ZD, ZW, simprocAttr]
   rfl
  ·have e2 : (byteCells out).length = out.length := byteCells_len out
   simp only [hF, e2, ↓ZD, ZW, simprocAttr]
   rfl
 | cons c0 rest =>
  have hne : (c0 :: rest == ([] : List UInt8)) = false := rfl
  simp only [List.length_cons] at hl hn
  obtain ⟨n, rfl⟩ : ∃ m, n = m + 1 := ⟨n - 1, by omega⟩
  simp only [hne, ↓ZD, ZW, simprocAttr]
  refine conj.of (by omega) ?_
  simp only [hne, ↓ZD, ZW, simprocAttr]
  refine ⟨fun hb => ?_, fun hb => ?_⟩
  ·refine conj.of (by simp at hb; omega) ?_
   simp only [↓ZD, ZW, simprocAttr]
   refine ⟨fun hx => ?_, fun hx => ?_⟩
   ·refine conj.of (by simp at hx; omega) ?_
    simp only [↓ZD, ZW, simprocAttr]
    refine CallQ.of _ (index_pure F _ _).up ?_
    simp only [↓ZD, ZW, simprocAttr]
    refine conj.of (by simp at hx; omega) ?_
    simp only [↓ZD, ZW, simprocAttr]
    refine CallQ.of _ (index_pure F _ _).up ?_
    simp only [hx_eq, ↓ZD, ZW, simprocAttr]
    have hst : stepU (c0 :: rest) = (hx2 (rest.getD 1 0) (rest.getD 2 0), 4) := by
     rw [stepU_cons]
     rw [if_pos hb, if_pos hx]
    refine CallQ.of _ (one_pure F _).up ?_
    simp only [↓ZD, ZW, simprocAttr]
    refine conj.of (by first | omega | (simp only [Bool.and_eq_true, beq_iff_eq, decide_eq_true_eq] at *; omega)) ?_
    simp only [↓ZD, ZW, simprocAttr]
    refine ⟨fun h1 => ?_, fun h1 => ?_⟩
    ·have hq : ¬ q1 (stepU (c0 :: rest)).1 = (c0 :: rest).take (stepU (c0 :: rest)).2 := by
      rw [hst]
      simpa using h1
     have : unqL (n + 1) (c0 :: rest) = none := by rw [unqL, if_neg hq]
     rw [this] at hu
     rw [← hu]; rfl
    ·have hq : q1 (stepU (c0 :: rest)).1 = (c0 :: rest).take (stepU (c0 :: rest)).2 := by
      rw [hst]
      simpa using h1
     have hu2 : unqL (n + 1) (c0 :: rest) = (unqL n ((c0 :: rest).drop 4)).map (hx2 (rest.getD 1 0) (rest.getD 2 0) :: ·) := by rw [unqL, if_pos hq, hst]
     rw [hu2, Option.map_map] at hu
     refine NewB.of fun b1 hb1 hF1 => ?_
     simp only [hF1, ↓ZD, ZW, simprocAttr]
     refine EfL.grow (Hr := []) (m := 1) (nw := [.int .u8 (hx2 (rest.getD 1 0) (rest.getD 2 0)).toNat]) ho (ho.lk [_] (by simp only [List.forall_mem_cons, List.not_mem_nil, false_implies, implies_true, and_true]; exact hb1)) (by simp) (by simp) ?_ rfl (by simp [oneCell]) (by simp) (by omega) ?_
     ·simp only [hF1, ↓ZD, ZW, simprocAttr]
     intro b2 cap sp hs2 hc2 hcm hF2 hne
     have hk : 1 ≤ 4 ∧ 4 ≤ rest.length + 1 := by first | omega | (simp only [Bool.and_eq_true, beq_iff_eq, decide_eq_true_eq] at *; omega)
     simp only [hF2, ↓ZD, ZW, simprocAttr]
     refine conj.of (by omega) ?_
     simp only [hF2, ↓ZD, ZW, simprocAttr]
     refine invK.on (n, (c0 :: rest).drop 4, out ++ [hx2 (rest.getD 1 0) (rest.getD 2 0)], .slice (some ⟨b2, 0, none⟩) (out.length + 1) cap, [(b2, .cells (byteCells out ++ [Value.int .u8 (hx2 (rest.getD 1 0) (rest.getD 2 0)).toNat] ++ sp).toArray 5 (0, 0))]) ⟨?_, ?_, ?_, OwnS.mk sp hF2 (by rw [byteCells_app]; rfl) (by simp) (by simp [byteCells]) (by simpa using hs2) (by simpa using hc2) hcm⟩ (by simp only; omega) (by simp only [Le_nil, Le_cons]; simp only [Int.toNat_natCast, List.take_length, ↓ZD, ZW, simprocAttr]) ?_
     ·simp only [List.length_drop, List.length_cons] at hn ⊢; omega
     ·simp only [List.length_drop, List.length_cons, List.length_append, List.length_nil] at hn hl ⊢; omega
     ·rw [← hu]; congr 1; funext z; simp
     ·(try (simp (disch := first | assumption | exact Ne.symm (by assumption) | omega) only [↓ZD, ZW, simprocAttr]); try trivial)
   ·have hst : stepU (c0 :: rest) = (rest.getD 0 0, 2) := by
     rw [stepU_cons]
     rw [if_pos hb, if_neg (by rw [hx]; simp)]
    refine CallQ.of _ (one_pure F _).up ?_
    simp only [↓ZD, ZW, simprocAttr]
    refine conj.of (by first | omega | (simp only [Bool.and_eq_true, beq_iff_eq, decide_eq_true_eq] at *; omega)) ?_
    simp only [↓ZD, ZW, simprocAttr]
    refine ⟨fun h1 => ?_, fun h1 => ?_⟩
    ·have hq : ¬ q1 (stepU (c0 :: rest)).1 = (c0 :: rest).take (stepU (c0 :: rest)).2 := by
      rw [hst]
      simpa using h1
     have : unqL (n + 1) (c0 :: rest) = none := by rw [unqL, if_neg hq]
     rw [this] at hu
     rw [← hu]; rfl
    ·have hq : q1 (stepU (c0 :: rest)).1 = (c0 :: rest).take (stepU (c0 :: rest)).2 := by
      rw [hst]
      simpa using h1
     have hu2 : unqL (n + 1) (c0 :: rest) = (unqL n ((c0 :: rest).drop 2)).map (rest.getD 0 0 :: ·) := by rw [unqL, if_pos hq, hst]
     rw [hu2, Option.map_map] at hu
     refine NewB.of fun b1 hb1 hF1 => ?_
     simp only [hF1, ↓ZD, ZW, simprocAttr]
     refine EfL.grow (Hr := []) (m := 1) (nw := [.int .u8 (rest.getD 0 0).toNat]) ho (ho.lk [_] (by simp only [List.forall_mem_cons, List.not_mem_nil, false_implies, implies_true, and_true]; exact hb1)) (by simp) (by simp) ?_ rfl (by simp [oneCell]) (by simp) (by omega) ?_
     ·simp only [hF1, ↓ZD, ZW, simprocAttr]
     intro b2 cap sp hs2 hc2 hcm hF2 hne
     have hk : 1 ≤ 2 ∧ 2 ≤ rest.length + 1 := by first | omega | (simp only [Bool.and_eq_true, beq_iff_eq, decide_eq_true_eq] at *; omega)
     simp only [hF2, ↓ZD, ZW, simprocAttr]
     refine conj.of (by omega) ?_
     simp only [hF2, ↓ZD, ZW, simprocAttr]
     refine invK.on (n, (c0 :: rest).drop 2, out ++ [rest.getD 0 0], .slice (some ⟨b2, 0, none⟩) (out.length + 1) cap, [(b2, .cells (byteCells out ++ [Value.int .u8 (rest.getD 0 0).toNat] ++ sp).toArray 5 (0, 0))]) ⟨?_, ?_, ?_, OwnS.mk sp hF2 (by rw [byteCells_app]; rfl) (by simp) (by simp [byteCells]) (by simpa using hs2) (by simpa using hc2) hcm⟩ (by simp only; omega) (by simp only [Le_nil, Le_cons]; simp only [Int.toNat_natCast, List.take_length, ↓ZD, ZW, simprocAttr]) ?_
     ·simp only [List.length_drop, List.length_cons] at hn ⊢; omega
     ·simp only [List.length_drop, List.length_cons, List.length_append, List.length_nil] at hn hl ⊢; omega
     ·rw [← hu]; congr 1; funext z; simp
     ·(try (simp (disch := first | assumption | exact Ne.symm (by assumption) | omega) only [↓ZD, ZW, simprocAttr]); try trivial)
  ·have hst : stepU (c0 :: rest) = (c0, 1) := by
    rw [stepU_cons]
    rw [if_neg (by rw [hb]; simp)]
   refine CallQ.of _ (one_pure F _).up ?_
   simp only [↓ZD, ZW, simprocAttr]
   refine conj.of (by first | omega | (simp only [Bool.and_eq_true, beq_iff_eq, decide_eq_true_eq] at *; omega)) ?_
   simp only [↓ZD, ZW, simprocAttr]
   refine ⟨fun h1 => ?_, fun h1 => ?_⟩
   ·have hq : ¬ q1 (stepU (c0 :: rest)).1 = (c0 :: rest).take (stepU (c0 :: rest)).2 := by
     rw [hst]
     simpa using h1
    have : unqL (n + 1) (c0 :: rest) = none := by rw [unqL, if_neg hq]
    rw [this] at hu
    rw [← hu]; rfl
   ·have hq : q1 (stepU (c0 :: rest)).1 = (c0 :: rest).take (stepU (c0 :: rest)).2 := by
     rw [hst]
     simpa using h1
    have hu2 : unqL (n + 1) (c0 :: rest) = (unqL n ((c0 :: rest).drop 1)).map (c0 :: ·) := by rw [unqL, if_pos hq, hst]
    rw [hu2, Option.map_map] at hu
    refine NewB.of fun b1 hb1 hF1 => ?_
    simp only [hF1, ↓ZD, ZW, simprocAttr]
    refine EfL.grow (Hr := []) (m := 1) (nw := [.int .u8 (c0).toNat]) ho (ho.lk [_] (by simp only [List.forall_mem_cons, List.not_mem_nil, false_implies, implies_true, and_true]; exact hb1)) (by simp) (by simp) ?_ rfl (by simp [oneCell]) (by simp) (by omega) ?_
    ·simp only [hF1, ↓ZD, ZW, simprocAttr]
    intro b2 cap sp hs2 hc2 hcm hF2 hne
    have hk : 1 ≤ 1 ∧ 1 ≤ rest.length + 1 := by first | omega | (simp only [Bool.and_eq_true, beq_iff_eq, decide_eq_true_eq] at *; omega)
    simp only [hF2, ↓ZD, ZW, simprocAttr]
    refine conj.of (by omega) ?_
    simp only [hF2, ↓ZD, ZW, simprocAttr]
    refine invK.on (n, (c0 :: rest).drop 1, out ++ [c0], .slice (some ⟨b2, 0, none⟩) (out.length + 1) cap, [(b2, .cells (byteCells out ++ [Value.int .u8 (c0).toNat] ++ sp).toArray 5 (0, 0))]) ⟨?_, ?_, ?_, OwnS.mk sp hF2 (by rw [byteCells_app]; rfl) (by simp) (by simp [byteCells]) (by simpa using hs2) (by simpa using hc2) hcm⟩ (by simp only; omega) (by simp only [Le_nil, Le_cons]; simp only [Int.toNat_natCast, List.take_length, ↓ZD, ZW, simprocAttr]) ?_
    ·simp only [List.length_drop, List.length_cons] at hn ⊢; omega
    ·simp only [List.length_drop, List.length_cons, List.length_append, List.length_nil] at hn hl ⊢; omega
    ·rw [← hu]; congr 1; funext z; simp
    ·(try (simp (disch := first | assumption | exact Ne.symm (by assumption) | omega) only [↓ZD, ZW, simprocAttr]); try trivial)
end Go.Proofs.YtkbhinfpndnnfaaDoor
namespace Go.Proofs.YtkbhinfpndnnfaaDoor
open Go Go.Eng
set_option maxHeartbeats 1000000
set_option linter.unusedSimpArgs false
set_option linter.unusedVariables false
set_option maxRecDepth 20000
theorem drop_getD {s : List UInt8} {i j : Nat} : s.getD (i + j) 0 = (s.drop i).getD j 0 := by
 simp [List.getD_eq_getElem?_getD, List.getElem?_drop]
def stepR (r : List UInt8) : UInt8 × Nat :=
 if (((r.getD 0 0).toNat : Int) == 92 && decide (2 < r.length) && (((r.getD 1 0).toNat : Int) == 34 || ((r.getD 1 0).toNat : Int) == 92)) = true then (r.getD 1 0, 2)
 else if (((r.getD 0 0).toNat : Int) == 92 && decide (4 < r.length) && ((r.getD 1 0).toNat : Int) == 120 && decide (((hexL.idxOf (r.getD 2 0) : Nat) : Int) < 16) && decide (((hexL.idxOf (r.getD 3 0) : Nat) : Int) < 16)) = true then
  (UInt8.ofNat (16 * hexL.idxOf (r.getD 2 0) + hexL.idxOf (r.getD 3 0)), 4)
 else (r.getD 0 0, 1)
def decR : Nat → List UInt8 → List UInt8
 | 0, _ => []
 | n + 1, r => if r.length < 2 then [] else (stepR r).1 :: decR n (r.drop (stepR r).2)
def refU (s : List UInt8) : Option (List UInt8) := if quote (decR s.length (s.drop 1)) = s then some (decR s.length (s.drop 1)) else none
theorem decR_len : ∀ (n : Nat) (r : List UInt8), (decR n r).length ≤ n
 | 0, r => by simp [decR]
 | n + 1, r => by
  rw [decR]; split
  ·simp
  ·have := decR_len n (r.drop (stepR r).2); simp; omega
end Go.Proofs.YtkbhinfpndnnfaaDoor
namespace Go.Proofs.YtkbhinfpndnnfaaDoor
open Go Go.Eng
set_option maxHeartbeats 1000000
set_option linter.unusedSimpArgs false
set_option linter.unusedVariables false
set_option maxRecDepth 20000
theorem all_u8 {p : UInt8 → Prop} (h : ∀ n : Nat, n < 256 → p (UInt8.ofNat n)) (c : UInt8) : p c := by
 have := h c.toNat (u8_lt c)
 rwa [ofNat_toNat'] at this
theorem hx2_hex : ∀ c : UInt8, hx2 (hexL.getD (c.toNat / 16) 0) (hexL.getD (c.toNat % 16) 0) = c :=
 all_u8 (by decide +kernel)
theorem q1_cases (c : UInt8) : (q1 c = [c] ∧ c ≠ 92) ∨ (q1 c = [92, c] ∧ (c = 34 ∨ c = 92)) ∨ q1 c = [92, 120, hexL.getD (c.toNat / 16) 0, hexL.getD (c.toNat % 16) 0] := by
 unfold q1
 split
 ·rename_i h
  refine .inl ⟨rfl, fun e => ?_⟩
  subst e; revert h; decide
 ·split
  ·rename_i h
   refine .inr (.inl ⟨rfl, ?_⟩)
   simp only [Bool.or_eq_true, beq_iff_eq] at h
   rcases h with h | h
   ·exact .inl (UInt8.toNat_inj.mp (by show c.toNat = 34; omega))
   ·exact .inr (UInt8.toNat_inj.mp (by show c.toNat = 92; omega))
  ·exact .inr (.inr rfl)
theorem stepU_q1 (c : UInt8) (t : List UInt8) : stepU (q1 c ++ t) = (c, (q1 c).length) := by
 rcases q1_cases c with ⟨h, h2⟩ | ⟨h, h2⟩ | h
 ·rw [h]
  show stepU (c :: t) = (c, 1)
  rw [stepU_cons, if_neg]
  simp only [Bool.and_eq_true, beq_iff_eq]
  intro hh
  exact h2 (UInt8.toNat_inj.mp (by show c.toNat = 92; omega))
 ·rw [h]
  show stepU (92 :: c :: t) = (c, 2)
  rw [stepU_cons, if_pos (by simp; omega), if_neg]
  ·rfl
  ·simp only [Bool.and_eq_true, beq_iff_eq, List.getD_cons_zero]
   rintro ⟨h3, -⟩
   rcases h2 with rfl | rfl <;> revert h3 <;> decide
 ·rw [h]
  show stepU (92 :: 120 :: hexL.getD (c.toNat / 16) 0 :: hexL.getD (c.toNat % 16) 0 :: t) = (c, 4)
  rw [stepU_cons, if_pos (by simp; omega), if_pos (by simp; omega)]
  show (hx2 (hexL.getD (c.toNat / 16) 0) (hexL.getD (c.toNat % 16) 0), 4) = _
  rw [hx2_hex]
theorem q1_ne (c : UInt8) : q1 c ≠ [] := by
 rcases q1_cases c with ⟨h, -⟩ | ⟨h, -⟩ | h <;> rw [h] <;> simp
theorem unqL_all : ∀ (o : List UInt8) (n : Nat), (o.flatMap q1).length ≤ n → unqL n (o.flatMap q1) = some o
 | [], n, _ => by cases n <;> rfl
 | c :: o, n, hn => by
  simp only [List.flatMap_cons] at hn ⊢
  obtain ⟨x, r, hx⟩ : ∃ x r, q1 c ++ o.flatMap q1 = x :: r := by
   cases h : q1 c ++ o.flatMap q1 with
   | nil => exact absurd (List.append_eq_nil_iff.mp h).1 (q1_ne c)
   | cons x r => exact ⟨x, r, rfl⟩
  have hlen : 1 ≤ (q1 c).length := by
   cases h : q1 c with
   | nil => exact absurd h (q1_ne c)
   | cons => simp
  obtain ⟨n, rfl⟩ : ∃ m, n = m + 1 := ⟨n - 1, by rw [List.length_append] at hn; omega⟩
  have hst := stepU_q1 c (o.flatMap q1)
  rw [hx] at hst ⊢
  rw [unqL, hst]
  simp only
  rw [← hx, List.take_left' rfl, List.drop_left' rfl, if_pos rfl, unqL_all o n (by rw [List.length_append] at hn; omega)]
  rfl
theorem unqL_sound : ∀ (n : Nat) (r o : List UInt8), unqL n r = some o → r = o.flatMap q1
 | n, [], o, h => by
  have : o = [] := by cases n <;> simp [unqL] at h <;> exact h
  subst this; rfl
 | 0, _ :: _, o, h => by simp [unqL] at h
 | n + 1, c :: r, o, h => by
  rw [unqL] at h
  split at h
  ·rename_i hq
   simp only [Option.map_eq_some_iff] at h
   obtain ⟨o', h1, rfl⟩ := h
   have := unqL_sound n _ o' h1
   rw [List.flatMap_cons, hq, ← this, List.take_append_drop]
  ·cases h
theorem unquote_quote (o : List UInt8) : unquote (quote o) = some o := by
 unfold unquote quote
 have e1 : (34 :: (o.flatMap q1 ++ [34])).length = (o.flatMap q1).length + 2 := by simp
 have e2 : (34 :: (o.flatMap q1 ++ [34])).getD ((o.flatMap q1).length + 2 - 1) 0 = 34 := by
  rw [show (o.flatMap q1).length + 2 - 1 = (o.flatMap q1).length + 1 by omega, List.getD_cons_succ, List.getD_eq_getElem?_getD]
  simp
 have e3 : ((34 :: (o.flatMap q1 ++ [34])).take ((o.flatMap q1).length + 2 - 1)).drop 1 = o.flatMap q1 := by
  rw [show (o.flatMap q1).length + 2 - 1 = (o.flatMap q1).length + 1 by omega, List.take_succ_cons, List.drop_succ_cons, List.drop_zero, List.take_left' rfl]
 rw [e1, e2, e3, if_neg]
 ·exact unqL_all o _ (by omega)
 ·simp only [Bool.or_eq_true, decide_eq_true_eq, bne_iff_ne, not_or]
  exact ⟨⟨by omega, by simp⟩, by simp⟩
theorem unquote_sound {s o : List UInt8} (h : unquote s = some o) : s = quote o := by
 unfold unquote at h
 split at h
 ·cases h
 ·rename_i hc
  have := unqL_sound _ _ _ h
  simp only [Bool.or_eq_true, decide_eq_true_eq, bne_iff_ne, not_or, Decidable.not_not] at hc
  obtain ⟨⟨h1, h2⟩, h3⟩ := hc
  unfold quote
  rw [← this]
  have a1 : s.getD 0 0 = 34 := UInt8.toNat_inj.mp (by show _ = 34; omega)
  have a2 : s.getD (s.length - 1) 0 = 34 := UInt8.toNat_inj.mp (by show _ = 34; omega)
  have hs : s = s.take (s.length - 1) ++ [s.getD (s.length - 1) 0] := by
   rw [← take_snocB (by omega), show s.length - 1 + 1 = s.length by omega, List.take_length]
  cases s with
  | nil => simp at h1
  | cons x r =>
   rw [List.getD_cons_zero] at a1
   subst a1
   rw [a2] at hs
   have hl : (34 :: r).length - 1 = r.length := by simp
   rw [hl] at hs ⊢
   cases r with
   | nil => simp at h1
   | cons y r' =>
    rw [List.length_cons, List.take_succ_cons] at hs ⊢
    rw [List.drop_succ_cons, List.drop_zero, ← List.cons_append]; exact hs
theorem hex_idx : ∀ k : Nat, k < 16 → hexL.idxOf (hexL.getD k 0) = k := by decide +kernel
theorem stepR_q1 (c : UInt8) (t : List UInt8) (ht : t ≠ []) : stepR (q1 c ++ t) = (c, (q1 c).length) := by
 have hl : 1 ≤ t.length := List.length_pos_iff.mpr ht
 unfold stepR
 rcases q1_cases c with ⟨h, h2⟩ | ⟨h, h2⟩ | h
 ·have hne : ((c.toNat : Int) == 92) = false := by
   apply beq_eq_false_iff_ne.mpr
   intro hh
   exact h2 (UInt8.toNat_inj.mp (by show c.toNat = 92; omega))
  rw [h]
  simp only [List.cons_append, List.nil_append, List.getD_cons_zero, hne, Bool.false_and, Bool.false_eq_true, if_false]
  rfl
 ·rw [h, if_pos]
  ·rfl
  ·rcases h2 with rfl | rfl <;> simp <;> omega
 ·have hc := u8_lt c
  have i1 := hex_idx (c.toNat / 16) (by omega)
  have i2 := hex_idx (c.toNat % 16) (by omega)
  rw [h]
  have g0 : ([92, 120, hexL.getD (c.toNat / 16) 0, hexL.getD (c.toNat % 16) 0] ++ t).getD 0 0 = 92 := rfl
  have g1 : ([92, 120, hexL.getD (c.toNat / 16) 0, hexL.getD (c.toNat % 16) 0] ++ t).getD 1 0 = 120 := rfl
  have g2 : ([92, 120, hexL.getD (c.toNat / 16) 0, hexL.getD (c.toNat % 16) 0] ++ t).getD 2 0 = hexL.getD (c.toNat / 16) 0 := rfl
  have g3 : ([92, 120, hexL.getD (c.toNat / 16) 0, hexL.getD (c.toNat % 16) 0] ++ t).getD 3 0 = hexL.getD (c.toNat % 16) 0 := rfl
  rw [g0, g1, g2, g3, i1, i2, if_neg, if_pos]
  ·have : 16 * (c.toNat / 16) + c.toNat % 16 = c.toNat := by omega
   rw [this, ofNat_toNat']; rfl
  ·simp only [List.length_append, List.length_cons, List.length_nil, Bool.and_eq_true, decide_eq_true_eq]
   refine ⟨⟨⟨⟨rfl, by omega⟩, rfl⟩, by omega⟩, by omega⟩
  ·simp
theorem decR_all : ∀ (o : List UInt8) (n : Nat), (o.flatMap q1).length + 1 ≤ n → decR n (o.flatMap q1 ++ [34]) = o
 | [], n, _ => by
  cases n with
  | zero => rfl
  | succ n => rw [decR, if_pos (by simp)]
 | c :: o, n, hn => by
  have hlen : 1 ≤ (q1 c).length := by
   cases h : q1 c with
   | nil => exact absurd h (q1_ne c)
   | cons => simp
  simp only [List.flatMap_cons, List.append_assoc, List.length_append] at hn ⊢
  obtain ⟨n, rfl⟩ : ∃ m, n = m + 1 := ⟨n - 1, by omega⟩
  rw [decR, if_neg (by simp only [List.length_append, List.length_cons]; omega), stepR_q1 c _ (by simp)]
  simp only
  rw [List.drop_left' rfl, decR_all o n (by omega)]
theorem unquote_ref (s : List UInt8) : unquote s = refU s := by
 unfold refU
 have key : ∀ o, s = quote o → decR s.length (s.drop 1) = o := fun o ho => by
  subst ho
  unfold quote
  rw [List.drop_succ_cons, List.drop_zero]
  exact decR_all o _ (by simp)
 split
 ·rename_i h
  rw [← h, unquote_quote, h]
 ·rename_i h
  cases hu : unquote s with
  | none => rfl
  | some o =>
   have hs := unquote_sound hu
   exact absurd (by rw [key o hs]; exact hs.symm) h
end Go.Proofs.YtkbhinfpndnnfaaDoor
namespace Go.Proofs.YtkbhinfpndnnfaaDoor
open Go Go.Eng
set_option maxHeartbeats 1000000
set_option linter.unusedSimpArgs false
set_option linter.unusedVariables false
set_option maxRecDepth 20000
def I64 (a : Int) : Prop := -9223372036854775808 ≤ a ∧ a ≤ 9223372036854775807
def fitR (x : Int) : Int × Int := if -9223372036854775808 ≤ x ∧ x ≤ 9223372036854775807 then (x, 0) else (0, 14)
def pr (p : Int × Int) : Value := .tuple #[.int .i64 p.1, .int .i64 p.2]
def size (a : Int) : Int := if a < 0 then -a else a
theorem fit_yes {x y : Int} (h : I64 x) (e : y = x) : Value.tuple #[.int .i64 y, .int .i64 0] = pr (fitR x) := by
 unfold I64 at h; unfold pr fitR; rw [if_pos h, e]
theorem fit_no {x : Int} (h : ¬ I64 x) : Value.tuple #[.int .i64 0, .int .i64 14] = pr (fitR x) := by
 unfold I64 at h; unfold pr fitR; rw [if_neg h]
theorem number_pure (F : Base) (m : Bool) (n : Int) (hn : 0 ≤ n ∧ n ≤ 18446744073709551615) : PureV Tryd.prog F 38 #[.bool m, .int .u64 n] (pr (fitR (if m then -n else n))) := by
 refine pureV_of_svc mixed Tryd.func38 low38 (Nat.le_of_ble_eq_true rfl) (fun w0 => ?_)
 simp only [fu38, ↓ZD, ZW, simprocAttr]
 cases m
 ·simp only [Bool.false_and, Bool.not_false, Bool.true_and, Bool.false_eq_true, false_implies, true_and, forall_const, if_false, decide_eq_true_eq, decide_eq_false_iff_not]
  refine ⟨fun h => fit_yes ?_ ?_, fun h => fit_no ?_⟩ <;> (try rw [wrap_i64]) <;> (try unfold I64) <;> omega
 ·simp only [Bool.true_and, Bool.not_true, Bool.false_and, Bool.false_eq_true, false_implies, true_and, forall_const, if_true, decide_eq_true_eq, decide_eq_false_iff_not]
  refine ⟨fun h => fit_yes ?_ ?_, fun h => fit_no ?_⟩ <;> (try rw [wrap_i64, wrap_i64]) <;> (try unfold I64) <;> omega
def Dg (d : Int) : Prop := 0 ≤ d ∧ d < 4294967296
def val (d0 d1 d2 d3 : Int) : Int := d0 * 79228162514264337593543950336 + d1 * 18446744073709551616 + d2 * 4294967296 + d3
def arr (d0 d1 d2 d3 : Int) : Value := .agg #[.int .u64 d0, .int .u64 d1, .int .u64 d2, .int .u64 d3]
def nn (m : Bool) (d0 d1 d2 d3 : Int) : Value := .agg #[.bool m, .int .u64 d0, .int .u64 d1, .int .u64 d2, .int .u64 d3]
end Go.Proofs.YtkbhinfpndnnfaaDoor
namespace Go.Proofs.YtkbhinfpndnnfaaDoor
open Go Go.Eng
set_option maxHeartbeats 1000000
set_option linter.unusedSimpArgs false
set_option linter.unusedVariables false
set_option maxRecDepth 20000
def nvalFrom (n : Nat) (l : List UInt8) : Nat := l.foldl (fun n c => n * 10 + (c.toNat - 48)) n
def nval (l : List UInt8) : Nat := nvalFrom 0 l
def readD (m : Bool) (l : List UInt8) : Int × Int :=
 if l = [] ∨ (l.getD 0 0 = 48 ∧ (1 < l.length ∨ m = true)) ∨ l.all isD = false then (0, 10) else fitR (if m then -(nval l : Int) else nval l)
def readR : List UInt8 → Int × Int
 | 45 :: l => readD true l
 | l => readD false l
theorem nvalFrom_app (n : Nat) (l : List UInt8) (c : UInt8) : nvalFrom n (l ++ [c]) = nvalFrom n l * 10 + (c.toNat - 48) := by simp [nvalFrom]
theorem nvalFrom_le (n : Nat) (l : List UInt8) : n ≤ nvalFrom n l := by
 unfold nvalFrom
 induction l generalizing n with
 | nil => exact Nat.le_refl _
 | cons c l ih => exact Nat.le_trans (by show n ≤ n * 10 + _; omega) (ih _)
theorem nval_take (l : List UInt8) (i : Nat) : nval (l.take i) ≤ nval l := by
 have e : nval l = nvalFrom (nval (l.take i)) (l.drop i) := by
  unfold nval nvalFrom; rw [← List.foldl_append, List.take_append_drop]
 rw [e]; exact nvalFrom_le _ _
theorem nval_succ (l : List UInt8) (i : Nat) (h : i < l.length) : nval (l.take (i + 1)) = nval (l.take i) * 10 + ((l.getD i 0).toNat - 48) := by
 unfold nval
 rw [List.take_add_one, List.getElem?_eq_getElem h, Option.toList_some, nvalFrom_app, List.getD_eq_getElem?_getD, List.getElem?_eq_getElem h]; rfl
theorem cut_pure (F : Base) (m : Bool) (l : List UInt8) (h : m = false → l.head? ≠ some 45) : PureV Tryd.prog F 35 #[.string (bs (if m then 45 :: l else l)), .string (bs [45])] (.tuple #[.string (bs l), .bool m]) := by
 refine PureV.of_same fun w => (Tryd.strings_CutPrefix _ _ w).mono fun e w' h' => ?_
 obtain ⟨he, hw⟩ := h'
 refine ⟨?_, hw⟩
 rw [he]
 cases m with
 | true => rfl
 | false =>
  have h0 := h rfl
  have hp : Lib.hasPrefix l [45] = false := by
   cases l with
   | nil => rfl
   | cons c l =>
    simp only [List.head?_cons, ne_eq, Option.some.injEq] at h0
    simp only [Lib.hasPrefix, List.isPrefixOf]
    simp; exact fun h => h0 h.symm
  simp only [Lib.trimPrefix, Bool.false_eq_true, if_false, bs_list, hp]
  rfl
theorem add64 (F : Base) (H : Hp) (a b : Int) (ha : 0 ≤ a) (ha' : a < 18446744073709551616) (hb : 0 ≤ b) (hb' : b < 18446744073709551616) : semq Tryd.prog F H (callFunc 37 #[.int .u64 a, .int .u64 b, .int .u64 0]) (fun n => n = .value (.tuple #[.int .u64 ((a + b) % 18446744073709551616), .int .u64 ((a + b) / 18446744073709551616)])) := by
 refine semq_row Tryd.func37 (by decide) rfl (by rfl) (by rfl) (row := fun args => do
  let (x, y, c) ← Extern.MathBitsCarry.three "Add64" args
  pure (Extern.MathBitsCarry.pair ((x + y + c) % Extern.MathBitsCarry.m64) ((x + y + c) / Extern.MathBitsCarry.m64))) ?_
 show Extern.MathBitsCarry.pair ((a.toNat + b.toNat + 0) % Extern.MathBitsCarry.m64) ((a.toNat + b.toNat + 0) / Extern.MathBitsCarry.m64) = _
 obtain ⟨X, rfl⟩ := Int.eq_ofNat_of_zero_le ha
 obtain ⟨Y, rfl⟩ := Int.eq_ofNat_of_zero_le hb
 simp only [Extern.MathBitsCarry.pair, Extern.MathBitsCarry.m64, Int.toNat_natCast]
 congr 4 <;> simp <;> omega
def readI (l : List UInt8) (x : Nat × Nat × Bool) : Prop :=
 x.1 ≤ l.length ∧ x.2.1 < 18446744073709551616 ∧ (l.take x.1).all isD = true ∧ (if x.2.2 = true then 18446744073709551616 ≤ nval (l.take x.1) else x.2.1 = nval (l.take x.1))
theorem read_pure (F : Base) (m : Bool) (l : List UInt8) (hm : m = false → l.head? ≠ some 45) (hl : l.length ≤ 1000000000) : PureV Tryd.prog F 25 #[.string (bs (if m then 45 :: l else l))] (pr (readD m l)) := by
 refine pureV_of_svc mixed Tryd.func25 low25 (Nat.le_of_ble_eq_true rfl) (fun w0 => ?_)
 simp only [fu25, ↓ZD, ZW, simprocAttr]
 refine CallE.pure (cut_pure F m l hm) ?_
 simp only [↓ZD, ZW, simprocAttr]
 have h0 : ((l == []) = false → (0 : Int) < l.length) := by intro h; cases l <;> simp at h ⊢
 refine conj.of h0 ?_
 simp only [↓ZD, ZW, simprocAttr]
 refine ⟨fun h => ?_, fun h => ?_⟩
 ·unfold readD
  rw [if_pos]
  ·rfl
  ·cases l with
   | nil => exact .inl rfl
   | cons c l => simp at h ⊢; refine .inl ⟨UInt8.toNat_inj.mp (by simp; omega), ?_⟩; cases m <;> simp at h ⊢; omega
 ·have hne : l ≠ [] := by rintro rfl; simp at h
  have hform : ¬ (l.getD 0 0 = 48 ∧ (1 < l.length ∨ m = true)) := by
   rintro ⟨h1, h2⟩
   rw [h1] at h
   cases m <;> simp at h h2 <;> omega
  intro k
  refine NewB.of fun b1 hb1 hF1 => ?_
  simp only [hF1, ↓ZD, ZW, simprocAttr]
  refine LoopL.inv (α := Nat × Nat × Bool) (readI l)
   (fun x => [(5, some (.bool m)), (6, some (.int .u64 x.2.1)), (7, some (.bool x.2.2)), (35, some (.slice (some ⟨b1, 0, none⟩) l.length (l.length + k))), (36, some (.int .i64 l.length)), (37, some (.int .i64 x.1))])
   (fun x => [(b1, .cells (byteCells l ++ List.replicate k (Value.int .u8 0)).toArray 5 (l.length + k, l.length + k + 1))])
   (fun x => l.length - x.1) (0, 0, false) ⟨Nat.zero_le _, by decide, rfl, rfl⟩ ?_ ?_ ?_
  ·simp only [Le_nil, Le_cons]
   simp only [↓ZD, ZW, simprocAttr]
  ·simp only [HLe_nil, HLe_cons]
   simp only [↓ZD, ZW, simprocAttr]
  ·rintro ⟨i, n, ov⟩ hI
   obtain ⟨hi, hn, ha, hv⟩ := hI
   simp only at hi hn ha hv ⊢
   by_cases hlt : i < l.length
   ·have hd : decide ((i : Int) < (l.length : Int)) = true := by simp; omega
    have hc1 : i + 1 ≤ l.length + k := by omega
    have hld := ld_bytes l (List.replicate k (Value.int .u8 0)) i hlt
    simp only [hF1, hd, ↓ZD, ZW, simprocAttr]
    refine conj.of (by omega) ?_
    simp only [hF1, hd, hld, hc1, Nat.mul_one, Int.toNat_natCast, List.length_append, List.length_replicate, ↓ZD, ZW, simprocAttr]
    have hm : PureV Tryd.prog F 36 #[.int .u64 n, .int .u64 10] (.tuple #[.int .u64 ((n : Int) * 10 / 18446744073709551616), .int .u64 ((n : Int) * 10 % 18446744073709551616)]) := 
     PureV.of_same fun w => (Tryd.bits_Mul64 n 10 (by omega) (by omega) w).mono fun e w' h => h
    refine ⟨fun hb => ?_, fun hb => ?_⟩
    ·unfold readD
     rw [if_pos]
     ·rfl
     ·refine .inr (.inr ?_)
      rw [List.all_eq_false]
      refine ⟨l.getD i 0, ?_, ?_⟩
      ·rw [List.getD_eq_getElem?_getD, List.getElem?_eq_getElem hlt]; exact List.getElem_mem hlt
      ·unfold isD; simp at hb ⊢; omega
    ·refine CallE.pure hm ?_
     have hc : 48 ≤ (l.getD i 0).toNat ∧ (l.getD i 0).toNat ≤ 57 := by simp at hb ⊢; omega
     have hw : IntKind.u64.wrap (IntKind.u8.wrap (((l.getD i 0).toNat : Int) - 48)) = (((l.getD i 0).toNat - 48 : Nat) : Int) := by
      rw [wrap_u64, wrap_u8]; omega
     simp (disch := first | assumption | exact Ne.symm (by assumption) | omega) only [hw, ↓ZD, ZW, simprocAttr]
     refine CallQ.of _ (add64 F _ _ _ (by omega) (by omega) (by omega) (by omega)) ?_
     simp (disch := first | assumption | exact Ne.symm (by assumption) | omega) only [↓ZD, ZW, simprocAttr]
     have ns := nval_succ l i hlt
     have ha' : (l.take (i + 1)).all isD = true := by
      rw [List.take_add_one, List.all_append, ha, List.getElem?_eq_getElem hlt]
      have : l.getD i 0 = l[i] := by rw [List.getD_eq_getElem?_getD, List.getElem?_eq_getElem hlt]; rfl
      rw [this] at hc
      simp [isD]; omega
     revert hc hw ns
     generalize (l.getD i 0).toNat = c
     intro hc hw ns
     have e7 : (ov || decide (0 < (n : Int) * 10 / 18446744073709551616) || decide (0 < ((n : Int) * 10 % 18446744073709551616 + (c - 48)) / 18446744073709551616)) = (ov || decide (0 < n * 10 / 18446744073709551616) || decide (0 < (n * 10 % 18446744073709551616 + (c - 48)) / 18446744073709551616)) := by
      congr 1
      ·congr 1; rw [decide_eq_decide]; omega
      ·rw [decide_eq_decide]; omega
     refine invK.on (i + 1, (n * 10 % 18446744073709551616 + (c - 48)) % 18446744073709551616, (ov || decide (0 < n * 10 / 18446744073709551616) || decide (0 < (n * 10 % 18446744073709551616 + (c - 48)) / 18446744073709551616))) ⟨?_, ?_, ?_, ?_⟩ ?_ ?_ ?_
     ·show i + 1 ≤ l.length
      omega
     ·show _ % _ < _
      omega
     ·exact ha'
     ·show (if (ov || decide (0 < n * 10 / 18446744073709551616) || decide (0 < (n * 10 % 18446744073709551616 + (c - 48)) / 18446744073709551616)) = true then 18446744073709551616 ≤ nval (l.take (i + 1)) else (n * 10 % 18446744073709551616 + (c - 48)) % 18446744073709551616 = nval (l.take (i + 1)))
      rw [ns]
      cases ov with
      | true =>
       simp only [if_true] at hv
       simp only [Bool.true_or, if_true]; omega
      | false =>
       simp only [Bool.false_eq_true, if_false] at hv
       rw [← hv]
       split
       ·rename_i h; simp at h; omega
       ·rename_i h; simp at h; omega
     ·show l.length - (i + 1) < l.length - i
      omega
     ·simp only [Le_nil, Le_cons, ← e7]
      simp (disch := first | assumption | exact Ne.symm (by assumption) | omega) only [↓ZD, ZW, simprocAttr]
      refine ⟨?_, ?_⟩
      ·congr 2; omega
      ·rfl
     ·simp only [HLe_nil, HLe_cons]
      simp only [↓ZD, ZW, simprocAttr]
   ·have hd : decide ((i : Int) < (l.length : Int)) = false := by simp; omega
    simp only [hF1, hd, ↓ZD, ZW, simprocAttr]
    have hil : i = l.length := by omega
    rw [hil, List.take_length] at ha hv
    have hr : readD m l = fitR (if m then -(nval l : Int) else nval l) := by
     unfold readD
     rw [if_neg]
     rintro (h | h | h)
     ·exact hne h
     ·exact hform h
     ·rw [ha] at h; cases h
    refine ⟨fun h => ?_, fun h => ?_⟩
    ·subst h
     simp only [if_true] at hv
     rw [hr]
     exact fit_no (by unfold I64; split <;> omega)
    ·subst h
     simp only [Bool.false_eq_true, if_false] at hv
     rw [hr, ← hv]
     refine CallE.pure (number_pure F m n (by omega)) ?_
     simp only [pr, ↓ZD, ZW, simprocAttr]
end Go.Proofs.YtkbhinfpndnnfaaDoor
namespace Go.Proofs.YtkbhinfpndnnfaaDoor
open Go Go.Eng
set_option maxHeartbeats 1000000
set_option linter.unusedSimpArgs false
set_option linter.unusedVariables false
set_option maxRecDepth 20000
def rreadI (f : Nat) (l : List UInt8) (x : Nat × Bool × Int × Int) : Prop :=
 f ≤ x.1 ∧ x.1 ≤ f + l.length ∧ Dg x.2.2.1 ∧ Dg x.2.2.2 ∧ (l.take (x.1 - f)).all isD = true ∧
  (if x.2.1 = true then 18446744073709551616 ≤ nval (l.take (x.1 - f)) else val 0 0 x.2.2.1 x.2.2.2 = nval (l.take (x.1 - f)))
end Go.Proofs.YtkbhinfpndnnfaaDoor
